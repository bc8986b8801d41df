import Derived.Test.YtfdecpfcphghlaaDoorTagsRef2
set_option linter.unusedSimpArgs false
set_option linter.unusedVariables false
namespace Go.Proofs.YtfdecpfcphghlaaDoor
open Go Go.AM Go.RowKit
attribute [local irreducible] aCode bcase

-- the document's Right, pairs, Unescape
def F23 : List AV → Option (Prop × AV) := fun al => match al with
  | [.d (.v (.string s))] => some (True, mkI .i64 (if rightB s = true then 0 else 2))
  | _ => none
theorem c23 : PSound Tryd.prog 23 (detE F23) := by
  refine det_fn (c := Tryd.b23) mixed Tryd.K_ok (gsound_det c34 (gsound_det c35 gsound_nil)) Tryd.func23 rfl rfl Tryd.call23 fun al p r q hF hp hq => ?_
  unfold F23 at hF; split at hF <;> cases hF
  rename_i s
  rw [rightB_ref] at hq
  obtain ⟨B, hB⟩ : ∃ B, refR s.size s = B := ⟨_, rfl⟩
  rw [hB] at hq
  refine cast (r23 s q).symm ?_
  refine ALoop.introM [] m23 (fun x : Nat × ByteArray => st23 x.2) (fun x => x.2.size ≤ x.1 ∧ refR x.1 x.2 = B) (fun x => x.1) ⟨[], (s.size, s), by simp [S.le, sealAll, leL, jks, st23], Nat.le_refl _, hB⟩ fun x ⟨hx1, hx2⟩ => ?_
  obtain ⟨f, t⟩ := x
  simp only at hx1 hx2
  refine cast (r23_b _ _ _ _ t q).symm fun hlim => bcase_dec (fun h => ?_) (fun h => ?_)
  · have h0 : 0 < t.size := by omega
    have h0' : ¬ t.size = 0 := by omega
    obtain ⟨f, rfl⟩ : ∃ g, f = g + 1 := ⟨f - 1, by omega⟩
    unfold refR at hx2
    rw [if_neg h0'] at hx2
    refine ⟨trivial, bcase_dec (fun h1 => ?_) (fun h1 => ⟨trivial, bcase_mk (fun h2 => ?_) (fun h2 => ?_)⟩)⟩
    · rw [if_pos (.inl h1)] at hx2; subst hx2; exact hq
    · have h2 : mayB (signT t).1 = false := by simpa using h2
      rw [if_pos (.inr h2)] at hx2; subst hx2; exact hq
    · have h2 : mayB (signT t).1 = true := by simpa using h2
      have h3 : ¬ ((signT t).2 ≤ 0 ∨ mayB (signT t).1 = false) := by rintro (h | h); exact h1 h; rw [h2] at h; cases h
      rw [if_neg h3] at hx2
      have hg : ¬ dec0 t = (65533, 1) := fun e => h1 (sign_bad t h0 e)
      obtain ⟨e1, e2⟩ := sign_good t h0 hg
      have e3 := dec0_le t h0
      have e4 : (signT t).2 = ((dec0 t).2 : Int) := by rw [e1]
      refine ⟨⟨by omega, by omega⟩, ?_⟩
      refine .mk [] (f, t.extract (signT t).2.toNat t.size) (by simp [S.le, sealAll, leL, jks, st23]) ⟨?_, hx2⟩ (Nat.lt_succ_self f)
      simp only; rw [ByteArray.size_extract]; omega
  · have h0 : t.size = 0 := by omega
    have : refR f t = true := by
      cases f with
      | zero => rfl
      | succ f => unfold refR; rw [if_pos h0]
    rw [this] at hx2; subst hx2; exact hq

theorem r24 (q : AV → Prop) :
  (aCode Tryd.K [] Tryd.b24 (kRet Tryd.K Tryd.f24.results.toList q) ⟨[] ++ List.replicate (Tryd.f24.ntmps) .jk, []⟩) = (
  q (AV.ag [mkS (⟨#[(38 : UInt8)]⟩ : ByteArray), mkS (⟨#[(38 : UInt8), (97 : UInt8), (109 : UInt8), (112 : UInt8), (59 : UInt8)]⟩ : ByteArray), mkS (⟨#[(60 : UInt8)]⟩ : ByteArray), mkS (⟨#[(38 : UInt8), (108 : UInt8), (116 : UInt8), (59 : UInt8)]⟩ : ByteArray), mkS (⟨#[(62 : UInt8)]⟩ : ByteArray), mkS (⟨#[(38 : UInt8), (103 : UInt8), (116 : UInt8), (59 : UInt8)]⟩ : ByteArray), mkS (⟨#[(34 : UInt8)]⟩ : ByteArray), mkS (⟨#[(38 : UInt8), (113 : UInt8), (117 : UInt8), (111 : UInt8), (116 : UInt8), (59 : UInt8)]⟩ : ByteArray), mkS (⟨#[(39 : UInt8)]⟩ : ByteArray), mkS (⟨#[(38 : UInt8), (97 : UInt8), (112 : UInt8), (111 : UInt8), (115 : UInt8), (59 : UInt8)]⟩ : ByteArray)])) := by kernel_rfl

def F24 : List AV → Option (Prop × AV) := fun al => match al with
  | [] => some (True, .ag [mkS ⟨#[38]⟩, mkS ⟨#[38, 97, 109, 112, 59]⟩, mkS ⟨#[60]⟩, mkS ⟨#[38, 108, 116, 59]⟩, mkS ⟨#[62]⟩, mkS ⟨#[38, 103, 116, 59]⟩, mkS ⟨#[34]⟩, mkS ⟨#[38, 113, 117, 111, 116, 59]⟩, mkS ⟨#[39]⟩, mkS ⟨#[38, 97, 112, 111, 115, 59]⟩])
  | _ => none
theorem c24 : PSound Tryd.prog 24 (detE F24) := by
  refine det_fn (c := Tryd.b24) mixed Tryd.K_ok gsound_nil Tryd.func24 rfl rfl Tryd.call24 fun al p r q hF hp hq => ?_
  unfold F24 at hF; split at hF <;> cases hF
  exact cast (r24 q).symm hq

noncomputable abbrev G18 : List (FuncId × En) := [(23, .det F23), (24, .det F24)]
noncomputable def r18_k0 (q : AV → Prop) : Kont := kBlk (0 : Nat) (kSeq (aCode Tryd.K YtfdecpfcphghlaaDoor.G18 (cAt [1, 1, 1, 1, 1] Tryd.b18) (kRet Tryd.K (Array.toList (Func.results Tryd.f18)) q)) (kRet Tryd.K (Array.toList (Func.results Tryd.f18)) q))
theorem r18 (s : ByteArray) (q : AV → Prop) :
  (aCode Tryd.K G18 Tryd.b18 (kRet Tryd.K Tryd.f18.results.toList q) ⟨[mkS s] ++ List.replicate (Tryd.f18.ntmps - 1) .jk, []⟩) = (
  True ∧
  bcase ((if (YtfdecpfcphghlaaDoor.rightB s) = true then (0 : Int) else (2 : Int)) != (0 : Int)) (
   q (AV.tp [mkS (⟨#[]⟩ : ByteArray), mkI IntKind.i64 (2 : Int)])) (
   True ∧
   ALoop (aCode Tryd.K YtfdecpfcphghlaaDoor.G18 (cAt [1, 1, 1, 1, 0, 1, 0, 0] Tryd.b18)) (YtfdecpfcphghlaaDoor.r18_k0 q) ⟨[mkS s, AV.jk, mkS (⟨#[]⟩ : ByteArray), mkI IntKind.i64 (0 : Int), mkS (⟨#[]⟩ : ByteArray), AV.rf 0 (0 : Nat), mkI IntKind.i64 (0 : Int), AV.jk, AV.jk, AV.jk, AV.jk, mkS s, mkI IntKind.i64 (if (YtfdecpfcphghlaaDoor.rightB s) = true then (0 : Int) else (2 : Int)), mkB false, AV.ag [mkS (⟨#[(38 : UInt8)]⟩ : ByteArray), mkS (⟨#[(38 : UInt8), (97 : UInt8), (109 : UInt8), (112 : UInt8), (59 : UInt8)]⟩ : ByteArray), mkS (⟨#[(60 : UInt8)]⟩ : ByteArray), mkS (⟨#[(38 : UInt8), (108 : UInt8), (116 : UInt8), (59 : UInt8)]⟩ : ByteArray), mkS (⟨#[(62 : UInt8)]⟩ : ByteArray), mkS (⟨#[(38 : UInt8), (103 : UInt8), (116 : UInt8), (59 : UInt8)]⟩ : ByteArray), mkS (⟨#[(34 : UInt8)]⟩ : ByteArray), mkS (⟨#[(38 : UInt8), (113 : UInt8), (117 : UInt8), (111 : UInt8), (116 : UInt8), (59 : UInt8)]⟩ : ByteArray), mkS (⟨#[(39 : UInt8)]⟩ : ByteArray), mkS (⟨#[(38 : UInt8), (97 : UInt8), (112 : UInt8), (111 : UInt8), (115 : UInt8), (59 : UInt8)]⟩ : ByteArray)], AV.jk, AV.jk, AV.jk, AV.jk, AV.jk, AV.jk, AV.jk, AV.jk, AV.jk, AV.jk, AV.jk, AV.jk, AV.jk, AV.jk, AV.jk, AV.jk, AV.jk, AV.jk, AV.jk, AV.jk, AV.jk, AV.jk, AV.jk, AV.jk, AV.jk, AV.jk, AV.jk, AV.jk, AV.jk, AV.jk, AV.jk, AV.jk, AV.jk, AV.jk, AV.jk, AV.jk, AV.jk, AV.jk, AV.jk, AV.jk, AV.jk, AV.jk, AV.jk, AV.jk, AV.jk, AV.jk, AV.jk, AV.jk, AV.jk, AV.jk, AV.jk, AV.jk, AV.jk, AV.jk, AV.jk, AV.jk, AV.jk, AV.jk], [Ob.box [mkS (⟨#[(38 : UInt8)]⟩ : ByteArray), mkS (⟨#[(38 : UInt8), (97 : UInt8), (109 : UInt8), (112 : UInt8), (59 : UInt8)]⟩ : ByteArray), mkS (⟨#[(60 : UInt8)]⟩ : ByteArray), mkS (⟨#[(38 : UInt8), (108 : UInt8), (116 : UInt8), (59 : UInt8)]⟩ : ByteArray), mkS (⟨#[(62 : UInt8)]⟩ : ByteArray), mkS (⟨#[(38 : UInt8), (103 : UInt8), (116 : UInt8), (59 : UInt8)]⟩ : ByteArray), mkS (⟨#[(34 : UInt8)]⟩ : ByteArray), mkS (⟨#[(38 : UInt8), (113 : UInt8), (117 : UInt8), (111 : UInt8), (116 : UInt8), (59 : UInt8)]⟩ : ByteArray), mkS (⟨#[(39 : UInt8)]⟩ : ByteArray), mkS (⟨#[(38 : UInt8), (97 : UInt8), (112 : UInt8), (111 : UInt8), (115 : UInt8), (59 : UInt8)]⟩ : ByteArray)]]⟩)) := by kernel_rfl

def bx18 : Ob := .box [mkS ⟨#[38]⟩, mkS ⟨#[38, 97, 109, 112, 59]⟩, mkS ⟨#[60]⟩, mkS ⟨#[38, 108, 116, 59]⟩, mkS ⟨#[62]⟩, mkS ⟨#[38, 103, 116, 59]⟩, mkS ⟨#[34]⟩, mkS ⟨#[38, 113, 117, 111, 116, 59]⟩, mkS ⟨#[39]⟩, mkS ⟨#[38, 97, 112, 111, 115, 59]⟩]
def st18 (s out : ByteArray) (i : Int) : S := ⟨[mkS s, .jk, .jk, .jk, mkS out, .rf 0 0, mkI .i64 i] ++ jks 66, [bx18]⟩
def m18 : List Bool := maskOf (st18 ⟨#[]⟩ ⟨#[]⟩ 0)
noncomputable def r18_b_k0 {ι : Type} (st : ι → S) (inv : ι → Prop) (μ : ι → Nat) (k : ι) (q : AV → Prop) : Kont := kBlk (2 : Nat) (kSeq (aCode Tryd.K YtfdecpfcphghlaaDoor.G18 (cAt [1, 1, 1, 1, 0, 1, 0, 0, 1, 0, 1, 1, 0, 1, 0, 1, 1] Tryd.b18) (kSeq (aCode Tryd.K YtfdecpfcphghlaaDoor.G18 (cAt [1, 1, 1, 1, 0, 1, 0, 0, 1, 0, 1, 1, 1] Tryd.b18) (kBlk (1 : Nat) (kFamM [] YtfdecpfcphghlaaDoor.m18 st inv μ k (YtfdecpfcphghlaaDoor.r18_k0 q)))) (kBlk (1 : Nat) (kFamM [] YtfdecpfcphghlaaDoor.m18 st inv μ k (YtfdecpfcphghlaaDoor.r18_k0 q))))) (kSeq (aCode Tryd.K YtfdecpfcphghlaaDoor.G18 (cAt [1, 1, 1, 1, 0, 1, 0, 0, 1, 0, 1, 1, 1] Tryd.b18) (kBlk (1 : Nat) (kFamM [] YtfdecpfcphghlaaDoor.m18 st inv μ k (YtfdecpfcphghlaaDoor.r18_k0 q)))) (kBlk (1 : Nat) (kFamM [] YtfdecpfcphghlaaDoor.m18 st inv μ k (YtfdecpfcphghlaaDoor.r18_k0 q)))))
theorem r18_b {ι : Type} (st : ι → S) (inv : ι → Prop) (μ : ι → Nat) (k : ι) (s out : ByteArray) (i : Int) (q : AV → Prop) :
  (aCode Tryd.K G18 (cAt [1, 1, 1, 1, 0, 1, 0, 0] Tryd.b18) (kFamM [] m18 st inv μ k (r18_k0 q)) (st18 s out i)) = (
  ((ByteArray.size s) ≤ LIM) →
  bcase (decide (i < ((ByteArray.size s) : Int))) (
   (((0 : Int) ≤ i) ∧ ((i ≤ (IntKind.wrap IntKind.i64 (i + (1 : Int)))) ∧ ((IntKind.wrap IntKind.i64 (i + (1 : Int))) ≤ ((ByteArray.size s) : Int)))) ∧
   (((0 : Int) ≤ i) ∧ (i < ((ByteArray.size s) : Int))) ∧
   bcase (((UInt8.toNat (List.getD (Array.toList (ByteArray.data s)) (Int.toNat i) (0 : UInt8))) : Int) == (60 : Int)) (
    q (AV.tp [mkS (⟨#[]⟩ : ByteArray), mkI IntKind.i64 (3 : Int)])) (
    (((0 : Int) ≤ i) ∧ (i < ((ByteArray.size s) : Int))) ∧
    bcase (((UInt8.toNat (List.getD (Array.toList (ByteArray.data s)) (Int.toNat i) (0 : UInt8))) : Int) == (38 : Int)) (
     ALoop (aCode Tryd.K YtfdecpfcphghlaaDoor.G18 (cAt [1, 1, 1, 1, 0, 1, 0, 0, 1, 0, 1, 1, 0, 1, 0, 1, 0, 1, 0, 0] Tryd.b18)) (YtfdecpfcphghlaaDoor.r18_b_k0 st inv μ k q) ⟨[mkS s, AV.jk, AV.jk, AV.jk, mkS out, AV.rf (0 : Nat) (0 : Nat), mkI IntKind.i64 i, mkS (ByteArray.extract s (Int.toNat i) (Int.toNat (IntKind.wrap IntKind.i64 (i + (1 : Int))))), mkI IntKind.i64 (0 : Int), mkI IntKind.i64 (0 : Int), AV.jk, AV.jk, AV.jk, AV.jk, AV.jk, mkI IntKind.i64 i, mkS s, mkI IntKind.i64 ((ByteArray.size s) : Int), mkB true, mkS s, mkI IntKind.i64 i, mkI IntKind.i64 i, mkI IntKind.i64 (IntKind.wrap IntKind.i64 (i + (1 : Int))), mkS (ByteArray.extract s (Int.toNat i) (Int.toNat (IntKind.wrap IntKind.i64 (i + (1 : Int))))), mkS s, mkI IntKind.i64 i, mkI IntKind.u8 ((UInt8.toNat (List.getD (Array.toList (ByteArray.data s)) (Int.toNat i) (0 : UInt8))) : Int), mkB false, mkS s, mkI IntKind.i64 i, mkI IntKind.u8 ((UInt8.toNat (List.getD (Array.toList (ByteArray.data s)) (Int.toNat i) (0 : UInt8))) : Int), mkB true, AV.jk, AV.jk, AV.jk, AV.jk, AV.jk, AV.jk, AV.jk, AV.jk, AV.jk, AV.jk, AV.jk, AV.jk, AV.jk, AV.jk, AV.jk, AV.jk, AV.jk, AV.jk, AV.jk, AV.jk, AV.jk, AV.jk, AV.jk, AV.jk, AV.jk, AV.jk, AV.jk, AV.jk, AV.jk, AV.jk, AV.jk, AV.jk, AV.jk, AV.jk, AV.jk, AV.jk, AV.jk, AV.jk, AV.jk, AV.jk, AV.jk], [Ob.box [mkS (⟨#[(38 : UInt8)]⟩ : ByteArray), mkS (⟨#[(38 : UInt8), (97 : UInt8), (109 : UInt8), (112 : UInt8), (59 : UInt8)]⟩ : ByteArray), mkS (⟨#[(60 : UInt8)]⟩ : ByteArray), mkS (⟨#[(38 : UInt8), (108 : UInt8), (116 : UInt8), (59 : UInt8)]⟩ : ByteArray), mkS (⟨#[(62 : UInt8)]⟩ : ByteArray), mkS (⟨#[(38 : UInt8), (103 : UInt8), (116 : UInt8), (59 : UInt8)]⟩ : ByteArray), mkS (⟨#[(34 : UInt8)]⟩ : ByteArray), mkS (⟨#[(38 : UInt8), (113 : UInt8), (117 : UInt8), (111 : UInt8), (116 : UInt8), (59 : UInt8)]⟩ : ByteArray), mkS (⟨#[(39 : UInt8)]⟩ : ByteArray), mkS (⟨#[(38 : UInt8), (97 : UInt8), (112 : UInt8), (111 : UInt8), (115 : UInt8), (59 : UInt8)]⟩ : ByteArray)]]⟩) (
     (((ByteArray.size out) + (ByteArray.size (ByteArray.extract s (Int.toNat i) (Int.toNat (IntKind.wrap IntKind.i64 (i + (1 : Int))))))) ≤ LIM) ∧
     FamNext st inv μ k ⟨[mkS s, AV.jk, AV.jk, AV.jk, mkS (out ++ (ByteArray.extract s (Int.toNat i) (Int.toNat (IntKind.wrap IntKind.i64 (i + (1 : Int)))))), AV.rf (0 : Nat) (0 : Nat), mkI IntKind.i64 (IntKind.wrap IntKind.i64 (i + (1 : Int))), AV.jk, AV.jk, AV.jk, AV.jk, AV.jk, AV.jk, AV.jk, AV.jk, AV.jk, AV.jk, AV.jk, AV.jk, AV.jk, AV.jk, AV.jk, AV.jk, AV.jk, AV.jk, AV.jk, AV.jk, AV.jk, AV.jk, AV.jk, AV.jk, AV.jk, AV.jk, AV.jk, AV.jk, AV.jk, AV.jk, AV.jk, AV.jk, AV.jk, AV.jk, AV.jk, AV.jk, AV.jk, AV.jk, AV.jk, AV.jk, AV.jk, AV.jk, AV.jk, AV.jk, AV.jk, AV.jk, AV.jk, AV.jk, AV.jk, AV.jk, AV.jk, AV.jk, AV.jk, AV.jk, AV.jk, AV.jk, AV.jk, AV.jk, AV.jk, AV.jk, AV.jk, AV.jk, AV.jk, AV.jk, AV.jk, AV.jk], [Ob.box [mkS (⟨#[(38 : UInt8)]⟩ : ByteArray), mkS (⟨#[(38 : UInt8), (97 : UInt8), (109 : UInt8), (112 : UInt8), (59 : UInt8)]⟩ : ByteArray), mkS (⟨#[(60 : UInt8)]⟩ : ByteArray), mkS (⟨#[(38 : UInt8), (108 : UInt8), (116 : UInt8), (59 : UInt8)]⟩ : ByteArray), mkS (⟨#[(62 : UInt8)]⟩ : ByteArray), mkS (⟨#[(38 : UInt8), (103 : UInt8), (116 : UInt8), (59 : UInt8)]⟩ : ByteArray), mkS (⟨#[(34 : UInt8)]⟩ : ByteArray), mkS (⟨#[(38 : UInt8), (113 : UInt8), (117 : UInt8), (111 : UInt8), (116 : UInt8), (59 : UInt8)]⟩ : ByteArray), mkS (⟨#[(39 : UInt8)]⟩ : ByteArray), mkS (⟨#[(38 : UInt8), (97 : UInt8), (112 : UInt8), (111 : UInt8), (115 : UInt8), (59 : UInt8)]⟩ : ByteArray)]]⟩))) (
   q (AV.tp [mkS out, mkI IntKind.i64 (0 : Int)]))) := by kernel_rfl

def st18c (s out t : ByteArray) (i n k : Int) : S := ⟨[mkS s, .jk, .jk, .jk, mkS out, .rf 0 0, mkI .i64 i, mkS t, mkI .i64 n, mkI .i64 k] ++ jks 63, [bx18]⟩
def m18c : List Bool := maskOf (st18c ⟨#[]⟩ ⟨#[]⟩ ⟨#[]⟩ 0 0 0)
theorem r18_c0 {ι : Type} (st : ι → S) (inv : ι → Prop) (μ : ι → Nat) (k : ι) {ι2 : Type} (st2 : ι2 → S) (inv2 : ι2 → Prop) (μ2 : ι2 → Nat) (k2 : ι2) (s out t : ByteArray) (i n : Int) (q : AV → Prop) :
  (aCode Tryd.K G18 (cAt [1, 1, 1, 1, 0, 1, 0, 0, 1, 0, 1, 1, 0, 1, 0, 1, 0, 1, 0, 0] Tryd.b18) (kFamM [] m18c st2 inv2 μ2 k2 (r18_b_k0 st inv μ k q)) (st18c s out t i n 0)) = (
  (((0 : Int) ≤ (0 : Int)) ∧ ((0 : Int) < ((5 : Nat) : Int))) ∧
  (((0 : Int) ≤ (1 : Int)) ∧ ((1 : Int) < ((2 : Nat) : Int))) ∧ (
   ((ByteArray.size s) ≤ LIM) →
   ((ByteArray.size (⟨#[(38 : UInt8), (97 : UInt8), (109 : UInt8), (112 : UInt8), (59 : UInt8)]⟩ : ByteArray)) ≤ LIM) →
   bcase (decide ((IntKind.wrap IntKind.i64 (((ByteArray.size s) : Int) - i)) ≥ ((ByteArray.size (⟨#[(38 : UInt8), (97 : UInt8), (109 : UInt8), (112 : UInt8), (59 : UInt8)]⟩ : ByteArray)) : Int))) (
    ((ByteArray.size (⟨#[(38 : UInt8), (97 : UInt8), (109 : UInt8), (112 : UInt8), (59 : UInt8)]⟩ : ByteArray)) ≤ LIM) →
    (((0 : Int) ≤ i) ∧ ((i ≤ (IntKind.wrap IntKind.i64 (i + ((ByteArray.size (⟨#[(38 : UInt8), (97 : UInt8), (109 : UInt8), (112 : UInt8), (59 : UInt8)]⟩ : ByteArray)) : Int)))) ∧ ((IntKind.wrap IntKind.i64 (i + ((ByteArray.size (⟨#[(38 : UInt8), (97 : UInt8), (109 : UInt8), (112 : UInt8), (59 : UInt8)]⟩ : ByteArray)) : Int))) ≤ ((ByteArray.size s) : Int)))) ∧
    bcase (decide ((ByteArray.extract s (Int.toNat i) (Int.toNat (IntKind.wrap IntKind.i64 (i + ((ByteArray.size (⟨#[(38 : UInt8), (97 : UInt8), (109 : UInt8), (112 : UInt8), (59 : UInt8)]⟩ : ByteArray)) : Int))))) = (⟨#[(38 : UInt8), (97 : UInt8), (109 : UInt8), (112 : UInt8), (59 : UInt8)]⟩ : ByteArray))) (
     (((0 : Int) ≤ (0 : Int)) ∧ ((0 : Int) < ((5 : Nat) : Int))) ∧
     (((0 : Int) ≤ (0 : Int)) ∧ ((0 : Int) < ((2 : Nat) : Int))) ∧ (
      ((ByteArray.size (⟨#[(38 : UInt8), (97 : UInt8), (109 : UInt8), (112 : UInt8), (59 : UInt8)]⟩ : ByteArray)) ≤ LIM) →
      FamNext st2 inv2 μ2 k2 ⟨[mkS s, AV.jk, AV.jk, AV.jk, mkS out, AV.rf (0 : Nat) (0 : Nat), mkI IntKind.i64 i, mkS (⟨#[(38 : UInt8)]⟩ : ByteArray), mkI IntKind.i64 ((ByteArray.size (⟨#[(38 : UInt8), (97 : UInt8), (109 : UInt8), (112 : UInt8), (59 : UInt8)]⟩ : ByteArray)) : Int), mkI IntKind.i64 (IntKind.wrap IntKind.i64 ((0 : Int) + (1 : Int))), AV.jk, AV.jk, AV.jk, AV.jk, AV.jk, AV.jk, AV.jk, AV.jk, AV.jk, AV.jk, AV.jk, AV.jk, AV.jk, AV.jk, AV.jk, AV.jk, AV.jk, AV.jk, AV.jk, AV.jk, AV.jk, AV.jk, AV.jk, AV.jk, AV.jk, AV.jk, AV.jk, AV.jk, AV.jk, AV.jk, AV.jk, AV.jk, AV.jk, AV.jk, AV.jk, AV.jk, AV.jk, AV.jk, AV.jk, AV.jk, AV.jk, AV.jk, AV.jk, AV.jk, AV.jk, AV.jk, AV.jk, AV.jk, AV.jk, AV.jk, AV.jk, AV.jk, AV.jk, AV.jk, AV.jk, AV.jk, AV.jk, AV.jk, AV.jk, AV.jk, AV.jk, AV.jk, AV.jk], [Ob.box [mkS (⟨#[(38 : UInt8)]⟩ : ByteArray), mkS (⟨#[(38 : UInt8), (97 : UInt8), (109 : UInt8), (112 : UInt8), (59 : UInt8)]⟩ : ByteArray), mkS (⟨#[(60 : UInt8)]⟩ : ByteArray), mkS (⟨#[(38 : UInt8), (108 : UInt8), (116 : UInt8), (59 : UInt8)]⟩ : ByteArray), mkS (⟨#[(62 : UInt8)]⟩ : ByteArray), mkS (⟨#[(38 : UInt8), (103 : UInt8), (116 : UInt8), (59 : UInt8)]⟩ : ByteArray), mkS (⟨#[(34 : UInt8)]⟩ : ByteArray), mkS (⟨#[(38 : UInt8), (113 : UInt8), (117 : UInt8), (111 : UInt8), (116 : UInt8), (59 : UInt8)]⟩ : ByteArray), mkS (⟨#[(39 : UInt8)]⟩ : ByteArray), mkS (⟨#[(38 : UInt8), (97 : UInt8), (112 : UInt8), (111 : UInt8), (115 : UInt8), (59 : UInt8)]⟩ : ByteArray)]]⟩)) (
     FamNext st2 inv2 μ2 k2 ⟨[mkS s, AV.jk, AV.jk, AV.jk, mkS out, AV.rf (0 : Nat) (0 : Nat), mkI IntKind.i64 i, mkS t, mkI IntKind.i64 n, mkI IntKind.i64 (IntKind.wrap IntKind.i64 ((0 : Int) + (1 : Int))), AV.jk, AV.jk, AV.jk, AV.jk, AV.jk, AV.jk, AV.jk, AV.jk, AV.jk, AV.jk, AV.jk, AV.jk, AV.jk, AV.jk, AV.jk, AV.jk, AV.jk, AV.jk, AV.jk, AV.jk, AV.jk, AV.jk, AV.jk, AV.jk, AV.jk, AV.jk, AV.jk, AV.jk, AV.jk, AV.jk, AV.jk, AV.jk, AV.jk, AV.jk, AV.jk, AV.jk, AV.jk, AV.jk, AV.jk, AV.jk, AV.jk, AV.jk, AV.jk, AV.jk, AV.jk, AV.jk, AV.jk, AV.jk, AV.jk, AV.jk, AV.jk, AV.jk, AV.jk, AV.jk, AV.jk, AV.jk, AV.jk, AV.jk, AV.jk, AV.jk, AV.jk, AV.jk, AV.jk], [Ob.box [mkS (⟨#[(38 : UInt8)]⟩ : ByteArray), mkS (⟨#[(38 : UInt8), (97 : UInt8), (109 : UInt8), (112 : UInt8), (59 : UInt8)]⟩ : ByteArray), mkS (⟨#[(60 : UInt8)]⟩ : ByteArray), mkS (⟨#[(38 : UInt8), (108 : UInt8), (116 : UInt8), (59 : UInt8)]⟩ : ByteArray), mkS (⟨#[(62 : UInt8)]⟩ : ByteArray), mkS (⟨#[(38 : UInt8), (103 : UInt8), (116 : UInt8), (59 : UInt8)]⟩ : ByteArray), mkS (⟨#[(34 : UInt8)]⟩ : ByteArray), mkS (⟨#[(38 : UInt8), (113 : UInt8), (117 : UInt8), (111 : UInt8), (116 : UInt8), (59 : UInt8)]⟩ : ByteArray), mkS (⟨#[(39 : UInt8)]⟩ : ByteArray), mkS (⟨#[(38 : UInt8), (97 : UInt8), (112 : UInt8), (111 : UInt8), (115 : UInt8), (59 : UInt8)]⟩ : ByteArray)]]⟩)) (
    FamNext st2 inv2 μ2 k2 ⟨[mkS s, AV.jk, AV.jk, AV.jk, mkS out, AV.rf (0 : Nat) (0 : Nat), mkI IntKind.i64 i, mkS t, mkI IntKind.i64 n, mkI IntKind.i64 (IntKind.wrap IntKind.i64 ((0 : Int) + (1 : Int))), AV.jk, AV.jk, AV.jk, AV.jk, AV.jk, AV.jk, AV.jk, AV.jk, AV.jk, AV.jk, AV.jk, AV.jk, AV.jk, AV.jk, AV.jk, AV.jk, AV.jk, AV.jk, AV.jk, AV.jk, AV.jk, AV.jk, AV.jk, AV.jk, AV.jk, AV.jk, AV.jk, AV.jk, AV.jk, AV.jk, AV.jk, AV.jk, AV.jk, AV.jk, AV.jk, AV.jk, AV.jk, AV.jk, AV.jk, AV.jk, AV.jk, AV.jk, AV.jk, AV.jk, AV.jk, AV.jk, AV.jk, AV.jk, AV.jk, AV.jk, AV.jk, AV.jk, AV.jk, AV.jk, AV.jk, AV.jk, AV.jk, AV.jk, AV.jk, AV.jk, AV.jk, AV.jk, AV.jk], [Ob.box [mkS (⟨#[(38 : UInt8)]⟩ : ByteArray), mkS (⟨#[(38 : UInt8), (97 : UInt8), (109 : UInt8), (112 : UInt8), (59 : UInt8)]⟩ : ByteArray), mkS (⟨#[(60 : UInt8)]⟩ : ByteArray), mkS (⟨#[(38 : UInt8), (108 : UInt8), (116 : UInt8), (59 : UInt8)]⟩ : ByteArray), mkS (⟨#[(62 : UInt8)]⟩ : ByteArray), mkS (⟨#[(38 : UInt8), (103 : UInt8), (116 : UInt8), (59 : UInt8)]⟩ : ByteArray), mkS (⟨#[(34 : UInt8)]⟩ : ByteArray), mkS (⟨#[(38 : UInt8), (113 : UInt8), (117 : UInt8), (111 : UInt8), (116 : UInt8), (59 : UInt8)]⟩ : ByteArray), mkS (⟨#[(39 : UInt8)]⟩ : ByteArray), mkS (⟨#[(38 : UInt8), (97 : UInt8), (112 : UInt8), (111 : UInt8), (115 : UInt8), (59 : UInt8)]⟩ : ByteArray)]]⟩))) := by kernel_rfl

theorem r18_c1 {ι : Type} (st : ι → S) (inv : ι → Prop) (μ : ι → Nat) (k : ι) {ι2 : Type} (st2 : ι2 → S) (inv2 : ι2 → Prop) (μ2 : ι2 → Nat) (k2 : ι2) (s out t : ByteArray) (i n : Int) (q : AV → Prop) :
  (aCode Tryd.K G18 (cAt [1, 1, 1, 1, 0, 1, 0, 0, 1, 0, 1, 1, 0, 1, 0, 1, 0, 1, 0, 0] Tryd.b18) (kFamM [] m18c st2 inv2 μ2 k2 (r18_b_k0 st inv μ k q)) (st18c s out t i n 1)) = (
  (((0 : Int) ≤ (1 : Int)) ∧ ((1 : Int) < ((5 : Nat) : Int))) ∧
  (((0 : Int) ≤ (1 : Int)) ∧ ((1 : Int) < ((2 : Nat) : Int))) ∧ (
   ((ByteArray.size s) ≤ LIM) →
   ((ByteArray.size (⟨#[(38 : UInt8), (108 : UInt8), (116 : UInt8), (59 : UInt8)]⟩ : ByteArray)) ≤ LIM) →
   bcase (decide ((IntKind.wrap IntKind.i64 (((ByteArray.size s) : Int) - i)) ≥ ((ByteArray.size (⟨#[(38 : UInt8), (108 : UInt8), (116 : UInt8), (59 : UInt8)]⟩ : ByteArray)) : Int))) (
    ((ByteArray.size (⟨#[(38 : UInt8), (108 : UInt8), (116 : UInt8), (59 : UInt8)]⟩ : ByteArray)) ≤ LIM) →
    (((0 : Int) ≤ i) ∧ ((i ≤ (IntKind.wrap IntKind.i64 (i + ((ByteArray.size (⟨#[(38 : UInt8), (108 : UInt8), (116 : UInt8), (59 : UInt8)]⟩ : ByteArray)) : Int)))) ∧ ((IntKind.wrap IntKind.i64 (i + ((ByteArray.size (⟨#[(38 : UInt8), (108 : UInt8), (116 : UInt8), (59 : UInt8)]⟩ : ByteArray)) : Int))) ≤ ((ByteArray.size s) : Int)))) ∧
    bcase (decide ((ByteArray.extract s (Int.toNat i) (Int.toNat (IntKind.wrap IntKind.i64 (i + ((ByteArray.size (⟨#[(38 : UInt8), (108 : UInt8), (116 : UInt8), (59 : UInt8)]⟩ : ByteArray)) : Int))))) = (⟨#[(38 : UInt8), (108 : UInt8), (116 : UInt8), (59 : UInt8)]⟩ : ByteArray))) (
     (((0 : Int) ≤ (1 : Int)) ∧ ((1 : Int) < ((5 : Nat) : Int))) ∧
     (((0 : Int) ≤ (0 : Int)) ∧ ((0 : Int) < ((2 : Nat) : Int))) ∧ (
      ((ByteArray.size (⟨#[(38 : UInt8), (108 : UInt8), (116 : UInt8), (59 : UInt8)]⟩ : ByteArray)) ≤ LIM) →
      FamNext st2 inv2 μ2 k2 ⟨[mkS s, AV.jk, AV.jk, AV.jk, mkS out, AV.rf (0 : Nat) (0 : Nat), mkI IntKind.i64 i, mkS (⟨#[(60 : UInt8)]⟩ : ByteArray), mkI IntKind.i64 ((ByteArray.size (⟨#[(38 : UInt8), (108 : UInt8), (116 : UInt8), (59 : UInt8)]⟩ : ByteArray)) : Int), mkI IntKind.i64 (IntKind.wrap IntKind.i64 ((1 : Int) + (1 : Int))), AV.jk, AV.jk, AV.jk, AV.jk, AV.jk, AV.jk, AV.jk, AV.jk, AV.jk, AV.jk, AV.jk, AV.jk, AV.jk, AV.jk, AV.jk, AV.jk, AV.jk, AV.jk, AV.jk, AV.jk, AV.jk, AV.jk, AV.jk, AV.jk, AV.jk, AV.jk, AV.jk, AV.jk, AV.jk, AV.jk, AV.jk, AV.jk, AV.jk, AV.jk, AV.jk, AV.jk, AV.jk, AV.jk, AV.jk, AV.jk, AV.jk, AV.jk, AV.jk, AV.jk, AV.jk, AV.jk, AV.jk, AV.jk, AV.jk, AV.jk, AV.jk, AV.jk, AV.jk, AV.jk, AV.jk, AV.jk, AV.jk, AV.jk, AV.jk, AV.jk, AV.jk, AV.jk, AV.jk], [Ob.box [mkS (⟨#[(38 : UInt8)]⟩ : ByteArray), mkS (⟨#[(38 : UInt8), (97 : UInt8), (109 : UInt8), (112 : UInt8), (59 : UInt8)]⟩ : ByteArray), mkS (⟨#[(60 : UInt8)]⟩ : ByteArray), mkS (⟨#[(38 : UInt8), (108 : UInt8), (116 : UInt8), (59 : UInt8)]⟩ : ByteArray), mkS (⟨#[(62 : UInt8)]⟩ : ByteArray), mkS (⟨#[(38 : UInt8), (103 : UInt8), (116 : UInt8), (59 : UInt8)]⟩ : ByteArray), mkS (⟨#[(34 : UInt8)]⟩ : ByteArray), mkS (⟨#[(38 : UInt8), (113 : UInt8), (117 : UInt8), (111 : UInt8), (116 : UInt8), (59 : UInt8)]⟩ : ByteArray), mkS (⟨#[(39 : UInt8)]⟩ : ByteArray), mkS (⟨#[(38 : UInt8), (97 : UInt8), (112 : UInt8), (111 : UInt8), (115 : UInt8), (59 : UInt8)]⟩ : ByteArray)]]⟩)) (
     FamNext st2 inv2 μ2 k2 ⟨[mkS s, AV.jk, AV.jk, AV.jk, mkS out, AV.rf (0 : Nat) (0 : Nat), mkI IntKind.i64 i, mkS t, mkI IntKind.i64 n, mkI IntKind.i64 (IntKind.wrap IntKind.i64 ((1 : Int) + (1 : Int))), AV.jk, AV.jk, AV.jk, AV.jk, AV.jk, AV.jk, AV.jk, AV.jk, AV.jk, AV.jk, AV.jk, AV.jk, AV.jk, AV.jk, AV.jk, AV.jk, AV.jk, AV.jk, AV.jk, AV.jk, AV.jk, AV.jk, AV.jk, AV.jk, AV.jk, AV.jk, AV.jk, AV.jk, AV.jk, AV.jk, AV.jk, AV.jk, AV.jk, AV.jk, AV.jk, AV.jk, AV.jk, AV.jk, AV.jk, AV.jk, AV.jk, AV.jk, AV.jk, AV.jk, AV.jk, AV.jk, AV.jk, AV.jk, AV.jk, AV.jk, AV.jk, AV.jk, AV.jk, AV.jk, AV.jk, AV.jk, AV.jk, AV.jk, AV.jk, AV.jk, AV.jk, AV.jk, AV.jk], [Ob.box [mkS (⟨#[(38 : UInt8)]⟩ : ByteArray), mkS (⟨#[(38 : UInt8), (97 : UInt8), (109 : UInt8), (112 : UInt8), (59 : UInt8)]⟩ : ByteArray), mkS (⟨#[(60 : UInt8)]⟩ : ByteArray), mkS (⟨#[(38 : UInt8), (108 : UInt8), (116 : UInt8), (59 : UInt8)]⟩ : ByteArray), mkS (⟨#[(62 : UInt8)]⟩ : ByteArray), mkS (⟨#[(38 : UInt8), (103 : UInt8), (116 : UInt8), (59 : UInt8)]⟩ : ByteArray), mkS (⟨#[(34 : UInt8)]⟩ : ByteArray), mkS (⟨#[(38 : UInt8), (113 : UInt8), (117 : UInt8), (111 : UInt8), (116 : UInt8), (59 : UInt8)]⟩ : ByteArray), mkS (⟨#[(39 : UInt8)]⟩ : ByteArray), mkS (⟨#[(38 : UInt8), (97 : UInt8), (112 : UInt8), (111 : UInt8), (115 : UInt8), (59 : UInt8)]⟩ : ByteArray)]]⟩)) (
    FamNext st2 inv2 μ2 k2 ⟨[mkS s, AV.jk, AV.jk, AV.jk, mkS out, AV.rf (0 : Nat) (0 : Nat), mkI IntKind.i64 i, mkS t, mkI IntKind.i64 n, mkI IntKind.i64 (IntKind.wrap IntKind.i64 ((1 : Int) + (1 : Int))), AV.jk, AV.jk, AV.jk, AV.jk, AV.jk, AV.jk, AV.jk, AV.jk, AV.jk, AV.jk, AV.jk, AV.jk, AV.jk, AV.jk, AV.jk, AV.jk, AV.jk, AV.jk, AV.jk, AV.jk, AV.jk, AV.jk, AV.jk, AV.jk, AV.jk, AV.jk, AV.jk, AV.jk, AV.jk, AV.jk, AV.jk, AV.jk, AV.jk, AV.jk, AV.jk, AV.jk, AV.jk, AV.jk, AV.jk, AV.jk, AV.jk, AV.jk, AV.jk, AV.jk, AV.jk, AV.jk, AV.jk, AV.jk, AV.jk, AV.jk, AV.jk, AV.jk, AV.jk, AV.jk, AV.jk, AV.jk, AV.jk, AV.jk, AV.jk, AV.jk, AV.jk, AV.jk, AV.jk], [Ob.box [mkS (⟨#[(38 : UInt8)]⟩ : ByteArray), mkS (⟨#[(38 : UInt8), (97 : UInt8), (109 : UInt8), (112 : UInt8), (59 : UInt8)]⟩ : ByteArray), mkS (⟨#[(60 : UInt8)]⟩ : ByteArray), mkS (⟨#[(38 : UInt8), (108 : UInt8), (116 : UInt8), (59 : UInt8)]⟩ : ByteArray), mkS (⟨#[(62 : UInt8)]⟩ : ByteArray), mkS (⟨#[(38 : UInt8), (103 : UInt8), (116 : UInt8), (59 : UInt8)]⟩ : ByteArray), mkS (⟨#[(34 : UInt8)]⟩ : ByteArray), mkS (⟨#[(38 : UInt8), (113 : UInt8), (117 : UInt8), (111 : UInt8), (116 : UInt8), (59 : UInt8)]⟩ : ByteArray), mkS (⟨#[(39 : UInt8)]⟩ : ByteArray), mkS (⟨#[(38 : UInt8), (97 : UInt8), (112 : UInt8), (111 : UInt8), (115 : UInt8), (59 : UInt8)]⟩ : ByteArray)]]⟩))) := by kernel_rfl

theorem r18_c2 {ι : Type} (st : ι → S) (inv : ι → Prop) (μ : ι → Nat) (k : ι) {ι2 : Type} (st2 : ι2 → S) (inv2 : ι2 → Prop) (μ2 : ι2 → Nat) (k2 : ι2) (s out t : ByteArray) (i n : Int) (q : AV → Prop) :
  (aCode Tryd.K G18 (cAt [1, 1, 1, 1, 0, 1, 0, 0, 1, 0, 1, 1, 0, 1, 0, 1, 0, 1, 0, 0] Tryd.b18) (kFamM [] m18c st2 inv2 μ2 k2 (r18_b_k0 st inv μ k q)) (st18c s out t i n 2)) = (
  (((0 : Int) ≤ (2 : Int)) ∧ ((2 : Int) < ((5 : Nat) : Int))) ∧
  (((0 : Int) ≤ (1 : Int)) ∧ ((1 : Int) < ((2 : Nat) : Int))) ∧ (
   ((ByteArray.size s) ≤ LIM) →
   ((ByteArray.size (⟨#[(38 : UInt8), (103 : UInt8), (116 : UInt8), (59 : UInt8)]⟩ : ByteArray)) ≤ LIM) →
   bcase (decide ((IntKind.wrap IntKind.i64 (((ByteArray.size s) : Int) - i)) ≥ ((ByteArray.size (⟨#[(38 : UInt8), (103 : UInt8), (116 : UInt8), (59 : UInt8)]⟩ : ByteArray)) : Int))) (
    ((ByteArray.size (⟨#[(38 : UInt8), (103 : UInt8), (116 : UInt8), (59 : UInt8)]⟩ : ByteArray)) ≤ LIM) →
    (((0 : Int) ≤ i) ∧ ((i ≤ (IntKind.wrap IntKind.i64 (i + ((ByteArray.size (⟨#[(38 : UInt8), (103 : UInt8), (116 : UInt8), (59 : UInt8)]⟩ : ByteArray)) : Int)))) ∧ ((IntKind.wrap IntKind.i64 (i + ((ByteArray.size (⟨#[(38 : UInt8), (103 : UInt8), (116 : UInt8), (59 : UInt8)]⟩ : ByteArray)) : Int))) ≤ ((ByteArray.size s) : Int)))) ∧
    bcase (decide ((ByteArray.extract s (Int.toNat i) (Int.toNat (IntKind.wrap IntKind.i64 (i + ((ByteArray.size (⟨#[(38 : UInt8), (103 : UInt8), (116 : UInt8), (59 : UInt8)]⟩ : ByteArray)) : Int))))) = (⟨#[(38 : UInt8), (103 : UInt8), (116 : UInt8), (59 : UInt8)]⟩ : ByteArray))) (
     (((0 : Int) ≤ (2 : Int)) ∧ ((2 : Int) < ((5 : Nat) : Int))) ∧
     (((0 : Int) ≤ (0 : Int)) ∧ ((0 : Int) < ((2 : Nat) : Int))) ∧ (
      ((ByteArray.size (⟨#[(38 : UInt8), (103 : UInt8), (116 : UInt8), (59 : UInt8)]⟩ : ByteArray)) ≤ LIM) →
      FamNext st2 inv2 μ2 k2 ⟨[mkS s, AV.jk, AV.jk, AV.jk, mkS out, AV.rf (0 : Nat) (0 : Nat), mkI IntKind.i64 i, mkS (⟨#[(62 : UInt8)]⟩ : ByteArray), mkI IntKind.i64 ((ByteArray.size (⟨#[(38 : UInt8), (103 : UInt8), (116 : UInt8), (59 : UInt8)]⟩ : ByteArray)) : Int), mkI IntKind.i64 (IntKind.wrap IntKind.i64 ((2 : Int) + (1 : Int))), AV.jk, AV.jk, AV.jk, AV.jk, AV.jk, AV.jk, AV.jk, AV.jk, AV.jk, AV.jk, AV.jk, AV.jk, AV.jk, AV.jk, AV.jk, AV.jk, AV.jk, AV.jk, AV.jk, AV.jk, AV.jk, AV.jk, AV.jk, AV.jk, AV.jk, AV.jk, AV.jk, AV.jk, AV.jk, AV.jk, AV.jk, AV.jk, AV.jk, AV.jk, AV.jk, AV.jk, AV.jk, AV.jk, AV.jk, AV.jk, AV.jk, AV.jk, AV.jk, AV.jk, AV.jk, AV.jk, AV.jk, AV.jk, AV.jk, AV.jk, AV.jk, AV.jk, AV.jk, AV.jk, AV.jk, AV.jk, AV.jk, AV.jk, AV.jk, AV.jk, AV.jk, AV.jk, AV.jk], [Ob.box [mkS (⟨#[(38 : UInt8)]⟩ : ByteArray), mkS (⟨#[(38 : UInt8), (97 : UInt8), (109 : UInt8), (112 : UInt8), (59 : UInt8)]⟩ : ByteArray), mkS (⟨#[(60 : UInt8)]⟩ : ByteArray), mkS (⟨#[(38 : UInt8), (108 : UInt8), (116 : UInt8), (59 : UInt8)]⟩ : ByteArray), mkS (⟨#[(62 : UInt8)]⟩ : ByteArray), mkS (⟨#[(38 : UInt8), (103 : UInt8), (116 : UInt8), (59 : UInt8)]⟩ : ByteArray), mkS (⟨#[(34 : UInt8)]⟩ : ByteArray), mkS (⟨#[(38 : UInt8), (113 : UInt8), (117 : UInt8), (111 : UInt8), (116 : UInt8), (59 : UInt8)]⟩ : ByteArray), mkS (⟨#[(39 : UInt8)]⟩ : ByteArray), mkS (⟨#[(38 : UInt8), (97 : UInt8), (112 : UInt8), (111 : UInt8), (115 : UInt8), (59 : UInt8)]⟩ : ByteArray)]]⟩)) (
     FamNext st2 inv2 μ2 k2 ⟨[mkS s, AV.jk, AV.jk, AV.jk, mkS out, AV.rf (0 : Nat) (0 : Nat), mkI IntKind.i64 i, mkS t, mkI IntKind.i64 n, mkI IntKind.i64 (IntKind.wrap IntKind.i64 ((2 : Int) + (1 : Int))), AV.jk, AV.jk, AV.jk, AV.jk, AV.jk, AV.jk, AV.jk, AV.jk, AV.jk, AV.jk, AV.jk, AV.jk, AV.jk, AV.jk, AV.jk, AV.jk, AV.jk, AV.jk, AV.jk, AV.jk, AV.jk, AV.jk, AV.jk, AV.jk, AV.jk, AV.jk, AV.jk, AV.jk, AV.jk, AV.jk, AV.jk, AV.jk, AV.jk, AV.jk, AV.jk, AV.jk, AV.jk, AV.jk, AV.jk, AV.jk, AV.jk, AV.jk, AV.jk, AV.jk, AV.jk, AV.jk, AV.jk, AV.jk, AV.jk, AV.jk, AV.jk, AV.jk, AV.jk, AV.jk, AV.jk, AV.jk, AV.jk, AV.jk, AV.jk, AV.jk, AV.jk, AV.jk, AV.jk], [Ob.box [mkS (⟨#[(38 : UInt8)]⟩ : ByteArray), mkS (⟨#[(38 : UInt8), (97 : UInt8), (109 : UInt8), (112 : UInt8), (59 : UInt8)]⟩ : ByteArray), mkS (⟨#[(60 : UInt8)]⟩ : ByteArray), mkS (⟨#[(38 : UInt8), (108 : UInt8), (116 : UInt8), (59 : UInt8)]⟩ : ByteArray), mkS (⟨#[(62 : UInt8)]⟩ : ByteArray), mkS (⟨#[(38 : UInt8), (103 : UInt8), (116 : UInt8), (59 : UInt8)]⟩ : ByteArray), mkS (⟨#[(34 : UInt8)]⟩ : ByteArray), mkS (⟨#[(38 : UInt8), (113 : UInt8), (117 : UInt8), (111 : UInt8), (116 : UInt8), (59 : UInt8)]⟩ : ByteArray), mkS (⟨#[(39 : UInt8)]⟩ : ByteArray), mkS (⟨#[(38 : UInt8), (97 : UInt8), (112 : UInt8), (111 : UInt8), (115 : UInt8), (59 : UInt8)]⟩ : ByteArray)]]⟩)) (
    FamNext st2 inv2 μ2 k2 ⟨[mkS s, AV.jk, AV.jk, AV.jk, mkS out, AV.rf (0 : Nat) (0 : Nat), mkI IntKind.i64 i, mkS t, mkI IntKind.i64 n, mkI IntKind.i64 (IntKind.wrap IntKind.i64 ((2 : Int) + (1 : Int))), AV.jk, AV.jk, AV.jk, AV.jk, AV.jk, AV.jk, AV.jk, AV.jk, AV.jk, AV.jk, AV.jk, AV.jk, AV.jk, AV.jk, AV.jk, AV.jk, AV.jk, AV.jk, AV.jk, AV.jk, AV.jk, AV.jk, AV.jk, AV.jk, AV.jk, AV.jk, AV.jk, AV.jk, AV.jk, AV.jk, AV.jk, AV.jk, AV.jk, AV.jk, AV.jk, AV.jk, AV.jk, AV.jk, AV.jk, AV.jk, AV.jk, AV.jk, AV.jk, AV.jk, AV.jk, AV.jk, AV.jk, AV.jk, AV.jk, AV.jk, AV.jk, AV.jk, AV.jk, AV.jk, AV.jk, AV.jk, AV.jk, AV.jk, AV.jk, AV.jk, AV.jk, AV.jk, AV.jk], [Ob.box [mkS (⟨#[(38 : UInt8)]⟩ : ByteArray), mkS (⟨#[(38 : UInt8), (97 : UInt8), (109 : UInt8), (112 : UInt8), (59 : UInt8)]⟩ : ByteArray), mkS (⟨#[(60 : UInt8)]⟩ : ByteArray), mkS (⟨#[(38 : UInt8), (108 : UInt8), (116 : UInt8), (59 : UInt8)]⟩ : ByteArray), mkS (⟨#[(62 : UInt8)]⟩ : ByteArray), mkS (⟨#[(38 : UInt8), (103 : UInt8), (116 : UInt8), (59 : UInt8)]⟩ : ByteArray), mkS (⟨#[(34 : UInt8)]⟩ : ByteArray), mkS (⟨#[(38 : UInt8), (113 : UInt8), (117 : UInt8), (111 : UInt8), (116 : UInt8), (59 : UInt8)]⟩ : ByteArray), mkS (⟨#[(39 : UInt8)]⟩ : ByteArray), mkS (⟨#[(38 : UInt8), (97 : UInt8), (112 : UInt8), (111 : UInt8), (115 : UInt8), (59 : UInt8)]⟩ : ByteArray)]]⟩))) := by kernel_rfl

theorem r18_c3 {ι : Type} (st : ι → S) (inv : ι → Prop) (μ : ι → Nat) (k : ι) {ι2 : Type} (st2 : ι2 → S) (inv2 : ι2 → Prop) (μ2 : ι2 → Nat) (k2 : ι2) (s out t : ByteArray) (i n : Int) (q : AV → Prop) :
  (aCode Tryd.K G18 (cAt [1, 1, 1, 1, 0, 1, 0, 0, 1, 0, 1, 1, 0, 1, 0, 1, 0, 1, 0, 0] Tryd.b18) (kFamM [] m18c st2 inv2 μ2 k2 (r18_b_k0 st inv μ k q)) (st18c s out t i n 3)) = (
  (((0 : Int) ≤ (3 : Int)) ∧ ((3 : Int) < ((5 : Nat) : Int))) ∧
  (((0 : Int) ≤ (1 : Int)) ∧ ((1 : Int) < ((2 : Nat) : Int))) ∧ (
   ((ByteArray.size s) ≤ LIM) →
   ((ByteArray.size (⟨#[(38 : UInt8), (113 : UInt8), (117 : UInt8), (111 : UInt8), (116 : UInt8), (59 : UInt8)]⟩ : ByteArray)) ≤ LIM) →
   bcase (decide ((IntKind.wrap IntKind.i64 (((ByteArray.size s) : Int) - i)) ≥ ((ByteArray.size (⟨#[(38 : UInt8), (113 : UInt8), (117 : UInt8), (111 : UInt8), (116 : UInt8), (59 : UInt8)]⟩ : ByteArray)) : Int))) (
    ((ByteArray.size (⟨#[(38 : UInt8), (113 : UInt8), (117 : UInt8), (111 : UInt8), (116 : UInt8), (59 : UInt8)]⟩ : ByteArray)) ≤ LIM) →
    (((0 : Int) ≤ i) ∧ ((i ≤ (IntKind.wrap IntKind.i64 (i + ((ByteArray.size (⟨#[(38 : UInt8), (113 : UInt8), (117 : UInt8), (111 : UInt8), (116 : UInt8), (59 : UInt8)]⟩ : ByteArray)) : Int)))) ∧ ((IntKind.wrap IntKind.i64 (i + ((ByteArray.size (⟨#[(38 : UInt8), (113 : UInt8), (117 : UInt8), (111 : UInt8), (116 : UInt8), (59 : UInt8)]⟩ : ByteArray)) : Int))) ≤ ((ByteArray.size s) : Int)))) ∧
    bcase (decide ((ByteArray.extract s (Int.toNat i) (Int.toNat (IntKind.wrap IntKind.i64 (i + ((ByteArray.size (⟨#[(38 : UInt8), (113 : UInt8), (117 : UInt8), (111 : UInt8), (116 : UInt8), (59 : UInt8)]⟩ : ByteArray)) : Int))))) = (⟨#[(38 : UInt8), (113 : UInt8), (117 : UInt8), (111 : UInt8), (116 : UInt8), (59 : UInt8)]⟩ : ByteArray))) (
     (((0 : Int) ≤ (3 : Int)) ∧ ((3 : Int) < ((5 : Nat) : Int))) ∧
     (((0 : Int) ≤ (0 : Int)) ∧ ((0 : Int) < ((2 : Nat) : Int))) ∧ (
      ((ByteArray.size (⟨#[(38 : UInt8), (113 : UInt8), (117 : UInt8), (111 : UInt8), (116 : UInt8), (59 : UInt8)]⟩ : ByteArray)) ≤ LIM) →
      FamNext st2 inv2 μ2 k2 ⟨[mkS s, AV.jk, AV.jk, AV.jk, mkS out, AV.rf (0 : Nat) (0 : Nat), mkI IntKind.i64 i, mkS (⟨#[(34 : UInt8)]⟩ : ByteArray), mkI IntKind.i64 ((ByteArray.size (⟨#[(38 : UInt8), (113 : UInt8), (117 : UInt8), (111 : UInt8), (116 : UInt8), (59 : UInt8)]⟩ : ByteArray)) : Int), mkI IntKind.i64 (IntKind.wrap IntKind.i64 ((3 : Int) + (1 : Int))), AV.jk, AV.jk, AV.jk, AV.jk, AV.jk, AV.jk, AV.jk, AV.jk, AV.jk, AV.jk, AV.jk, AV.jk, AV.jk, AV.jk, AV.jk, AV.jk, AV.jk, AV.jk, AV.jk, AV.jk, AV.jk, AV.jk, AV.jk, AV.jk, AV.jk, AV.jk, AV.jk, AV.jk, AV.jk, AV.jk, AV.jk, AV.jk, AV.jk, AV.jk, AV.jk, AV.jk, AV.jk, AV.jk, AV.jk, AV.jk, AV.jk, AV.jk, AV.jk, AV.jk, AV.jk, AV.jk, AV.jk, AV.jk, AV.jk, AV.jk, AV.jk, AV.jk, AV.jk, AV.jk, AV.jk, AV.jk, AV.jk, AV.jk, AV.jk, AV.jk, AV.jk, AV.jk, AV.jk], [Ob.box [mkS (⟨#[(38 : UInt8)]⟩ : ByteArray), mkS (⟨#[(38 : UInt8), (97 : UInt8), (109 : UInt8), (112 : UInt8), (59 : UInt8)]⟩ : ByteArray), mkS (⟨#[(60 : UInt8)]⟩ : ByteArray), mkS (⟨#[(38 : UInt8), (108 : UInt8), (116 : UInt8), (59 : UInt8)]⟩ : ByteArray), mkS (⟨#[(62 : UInt8)]⟩ : ByteArray), mkS (⟨#[(38 : UInt8), (103 : UInt8), (116 : UInt8), (59 : UInt8)]⟩ : ByteArray), mkS (⟨#[(34 : UInt8)]⟩ : ByteArray), mkS (⟨#[(38 : UInt8), (113 : UInt8), (117 : UInt8), (111 : UInt8), (116 : UInt8), (59 : UInt8)]⟩ : ByteArray), mkS (⟨#[(39 : UInt8)]⟩ : ByteArray), mkS (⟨#[(38 : UInt8), (97 : UInt8), (112 : UInt8), (111 : UInt8), (115 : UInt8), (59 : UInt8)]⟩ : ByteArray)]]⟩)) (
     FamNext st2 inv2 μ2 k2 ⟨[mkS s, AV.jk, AV.jk, AV.jk, mkS out, AV.rf (0 : Nat) (0 : Nat), mkI IntKind.i64 i, mkS t, mkI IntKind.i64 n, mkI IntKind.i64 (IntKind.wrap IntKind.i64 ((3 : Int) + (1 : Int))), AV.jk, AV.jk, AV.jk, AV.jk, AV.jk, AV.jk, AV.jk, AV.jk, AV.jk, AV.jk, AV.jk, AV.jk, AV.jk, AV.jk, AV.jk, AV.jk, AV.jk, AV.jk, AV.jk, AV.jk, AV.jk, AV.jk, AV.jk, AV.jk, AV.jk, AV.jk, AV.jk, AV.jk, AV.jk, AV.jk, AV.jk, AV.jk, AV.jk, AV.jk, AV.jk, AV.jk, AV.jk, AV.jk, AV.jk, AV.jk, AV.jk, AV.jk, AV.jk, AV.jk, AV.jk, AV.jk, AV.jk, AV.jk, AV.jk, AV.jk, AV.jk, AV.jk, AV.jk, AV.jk, AV.jk, AV.jk, AV.jk, AV.jk, AV.jk, AV.jk, AV.jk, AV.jk, AV.jk], [Ob.box [mkS (⟨#[(38 : UInt8)]⟩ : ByteArray), mkS (⟨#[(38 : UInt8), (97 : UInt8), (109 : UInt8), (112 : UInt8), (59 : UInt8)]⟩ : ByteArray), mkS (⟨#[(60 : UInt8)]⟩ : ByteArray), mkS (⟨#[(38 : UInt8), (108 : UInt8), (116 : UInt8), (59 : UInt8)]⟩ : ByteArray), mkS (⟨#[(62 : UInt8)]⟩ : ByteArray), mkS (⟨#[(38 : UInt8), (103 : UInt8), (116 : UInt8), (59 : UInt8)]⟩ : ByteArray), mkS (⟨#[(34 : UInt8)]⟩ : ByteArray), mkS (⟨#[(38 : UInt8), (113 : UInt8), (117 : UInt8), (111 : UInt8), (116 : UInt8), (59 : UInt8)]⟩ : ByteArray), mkS (⟨#[(39 : UInt8)]⟩ : ByteArray), mkS (⟨#[(38 : UInt8), (97 : UInt8), (112 : UInt8), (111 : UInt8), (115 : UInt8), (59 : UInt8)]⟩ : ByteArray)]]⟩)) (
    FamNext st2 inv2 μ2 k2 ⟨[mkS s, AV.jk, AV.jk, AV.jk, mkS out, AV.rf (0 : Nat) (0 : Nat), mkI IntKind.i64 i, mkS t, mkI IntKind.i64 n, mkI IntKind.i64 (IntKind.wrap IntKind.i64 ((3 : Int) + (1 : Int))), AV.jk, AV.jk, AV.jk, AV.jk, AV.jk, AV.jk, AV.jk, AV.jk, AV.jk, AV.jk, AV.jk, AV.jk, AV.jk, AV.jk, AV.jk, AV.jk, AV.jk, AV.jk, AV.jk, AV.jk, AV.jk, AV.jk, AV.jk, AV.jk, AV.jk, AV.jk, AV.jk, AV.jk, AV.jk, AV.jk, AV.jk, AV.jk, AV.jk, AV.jk, AV.jk, AV.jk, AV.jk, AV.jk, AV.jk, AV.jk, AV.jk, AV.jk, AV.jk, AV.jk, AV.jk, AV.jk, AV.jk, AV.jk, AV.jk, AV.jk, AV.jk, AV.jk, AV.jk, AV.jk, AV.jk, AV.jk, AV.jk, AV.jk, AV.jk, AV.jk, AV.jk, AV.jk, AV.jk], [Ob.box [mkS (⟨#[(38 : UInt8)]⟩ : ByteArray), mkS (⟨#[(38 : UInt8), (97 : UInt8), (109 : UInt8), (112 : UInt8), (59 : UInt8)]⟩ : ByteArray), mkS (⟨#[(60 : UInt8)]⟩ : ByteArray), mkS (⟨#[(38 : UInt8), (108 : UInt8), (116 : UInt8), (59 : UInt8)]⟩ : ByteArray), mkS (⟨#[(62 : UInt8)]⟩ : ByteArray), mkS (⟨#[(38 : UInt8), (103 : UInt8), (116 : UInt8), (59 : UInt8)]⟩ : ByteArray), mkS (⟨#[(34 : UInt8)]⟩ : ByteArray), mkS (⟨#[(38 : UInt8), (113 : UInt8), (117 : UInt8), (111 : UInt8), (116 : UInt8), (59 : UInt8)]⟩ : ByteArray), mkS (⟨#[(39 : UInt8)]⟩ : ByteArray), mkS (⟨#[(38 : UInt8), (97 : UInt8), (112 : UInt8), (111 : UInt8), (115 : UInt8), (59 : UInt8)]⟩ : ByteArray)]]⟩))) := by kernel_rfl

theorem r18_c4 {ι : Type} (st : ι → S) (inv : ι → Prop) (μ : ι → Nat) (k : ι) {ι2 : Type} (st2 : ι2 → S) (inv2 : ι2 → Prop) (μ2 : ι2 → Nat) (k2 : ι2) (s out t : ByteArray) (i n : Int) (q : AV → Prop) :
  (aCode Tryd.K G18 (cAt [1, 1, 1, 1, 0, 1, 0, 0, 1, 0, 1, 1, 0, 1, 0, 1, 0, 1, 0, 0] Tryd.b18) (kFamM [] m18c st2 inv2 μ2 k2 (r18_b_k0 st inv μ k q)) (st18c s out t i n 4)) = (
  (((0 : Int) ≤ (4 : Int)) ∧ ((4 : Int) < ((5 : Nat) : Int))) ∧
  (((0 : Int) ≤ (1 : Int)) ∧ ((1 : Int) < ((2 : Nat) : Int))) ∧ (
   ((ByteArray.size s) ≤ LIM) →
   ((ByteArray.size (⟨#[(38 : UInt8), (97 : UInt8), (112 : UInt8), (111 : UInt8), (115 : UInt8), (59 : UInt8)]⟩ : ByteArray)) ≤ LIM) →
   bcase (decide ((IntKind.wrap IntKind.i64 (((ByteArray.size s) : Int) - i)) ≥ ((ByteArray.size (⟨#[(38 : UInt8), (97 : UInt8), (112 : UInt8), (111 : UInt8), (115 : UInt8), (59 : UInt8)]⟩ : ByteArray)) : Int))) (
    ((ByteArray.size (⟨#[(38 : UInt8), (97 : UInt8), (112 : UInt8), (111 : UInt8), (115 : UInt8), (59 : UInt8)]⟩ : ByteArray)) ≤ LIM) →
    (((0 : Int) ≤ i) ∧ ((i ≤ (IntKind.wrap IntKind.i64 (i + ((ByteArray.size (⟨#[(38 : UInt8), (97 : UInt8), (112 : UInt8), (111 : UInt8), (115 : UInt8), (59 : UInt8)]⟩ : ByteArray)) : Int)))) ∧ ((IntKind.wrap IntKind.i64 (i + ((ByteArray.size (⟨#[(38 : UInt8), (97 : UInt8), (112 : UInt8), (111 : UInt8), (115 : UInt8), (59 : UInt8)]⟩ : ByteArray)) : Int))) ≤ ((ByteArray.size s) : Int)))) ∧
    bcase (decide ((ByteArray.extract s (Int.toNat i) (Int.toNat (IntKind.wrap IntKind.i64 (i + ((ByteArray.size (⟨#[(38 : UInt8), (97 : UInt8), (112 : UInt8), (111 : UInt8), (115 : UInt8), (59 : UInt8)]⟩ : ByteArray)) : Int))))) = (⟨#[(38 : UInt8), (97 : UInt8), (112 : UInt8), (111 : UInt8), (115 : UInt8), (59 : UInt8)]⟩ : ByteArray))) (
     (((0 : Int) ≤ (4 : Int)) ∧ ((4 : Int) < ((5 : Nat) : Int))) ∧
     (((0 : Int) ≤ (0 : Int)) ∧ ((0 : Int) < ((2 : Nat) : Int))) ∧ (
      ((ByteArray.size (⟨#[(38 : UInt8), (97 : UInt8), (112 : UInt8), (111 : UInt8), (115 : UInt8), (59 : UInt8)]⟩ : ByteArray)) ≤ LIM) →
      FamNext st2 inv2 μ2 k2 ⟨[mkS s, AV.jk, AV.jk, AV.jk, mkS out, AV.rf (0 : Nat) (0 : Nat), mkI IntKind.i64 i, mkS (⟨#[(39 : UInt8)]⟩ : ByteArray), mkI IntKind.i64 ((ByteArray.size (⟨#[(38 : UInt8), (97 : UInt8), (112 : UInt8), (111 : UInt8), (115 : UInt8), (59 : UInt8)]⟩ : ByteArray)) : Int), mkI IntKind.i64 (IntKind.wrap IntKind.i64 ((4 : Int) + (1 : Int))), AV.jk, AV.jk, AV.jk, AV.jk, AV.jk, AV.jk, AV.jk, AV.jk, AV.jk, AV.jk, AV.jk, AV.jk, AV.jk, AV.jk, AV.jk, AV.jk, AV.jk, AV.jk, AV.jk, AV.jk, AV.jk, AV.jk, AV.jk, AV.jk, AV.jk, AV.jk, AV.jk, AV.jk, AV.jk, AV.jk, AV.jk, AV.jk, AV.jk, AV.jk, AV.jk, AV.jk, AV.jk, AV.jk, AV.jk, AV.jk, AV.jk, AV.jk, AV.jk, AV.jk, AV.jk, AV.jk, AV.jk, AV.jk, AV.jk, AV.jk, AV.jk, AV.jk, AV.jk, AV.jk, AV.jk, AV.jk, AV.jk, AV.jk, AV.jk, AV.jk, AV.jk, AV.jk, AV.jk], [Ob.box [mkS (⟨#[(38 : UInt8)]⟩ : ByteArray), mkS (⟨#[(38 : UInt8), (97 : UInt8), (109 : UInt8), (112 : UInt8), (59 : UInt8)]⟩ : ByteArray), mkS (⟨#[(60 : UInt8)]⟩ : ByteArray), mkS (⟨#[(38 : UInt8), (108 : UInt8), (116 : UInt8), (59 : UInt8)]⟩ : ByteArray), mkS (⟨#[(62 : UInt8)]⟩ : ByteArray), mkS (⟨#[(38 : UInt8), (103 : UInt8), (116 : UInt8), (59 : UInt8)]⟩ : ByteArray), mkS (⟨#[(34 : UInt8)]⟩ : ByteArray), mkS (⟨#[(38 : UInt8), (113 : UInt8), (117 : UInt8), (111 : UInt8), (116 : UInt8), (59 : UInt8)]⟩ : ByteArray), mkS (⟨#[(39 : UInt8)]⟩ : ByteArray), mkS (⟨#[(38 : UInt8), (97 : UInt8), (112 : UInt8), (111 : UInt8), (115 : UInt8), (59 : UInt8)]⟩ : ByteArray)]]⟩)) (
     FamNext st2 inv2 μ2 k2 ⟨[mkS s, AV.jk, AV.jk, AV.jk, mkS out, AV.rf (0 : Nat) (0 : Nat), mkI IntKind.i64 i, mkS t, mkI IntKind.i64 n, mkI IntKind.i64 (IntKind.wrap IntKind.i64 ((4 : Int) + (1 : Int))), AV.jk, AV.jk, AV.jk, AV.jk, AV.jk, AV.jk, AV.jk, AV.jk, AV.jk, AV.jk, AV.jk, AV.jk, AV.jk, AV.jk, AV.jk, AV.jk, AV.jk, AV.jk, AV.jk, AV.jk, AV.jk, AV.jk, AV.jk, AV.jk, AV.jk, AV.jk, AV.jk, AV.jk, AV.jk, AV.jk, AV.jk, AV.jk, AV.jk, AV.jk, AV.jk, AV.jk, AV.jk, AV.jk, AV.jk, AV.jk, AV.jk, AV.jk, AV.jk, AV.jk, AV.jk, AV.jk, AV.jk, AV.jk, AV.jk, AV.jk, AV.jk, AV.jk, AV.jk, AV.jk, AV.jk, AV.jk, AV.jk, AV.jk, AV.jk, AV.jk, AV.jk, AV.jk, AV.jk], [Ob.box [mkS (⟨#[(38 : UInt8)]⟩ : ByteArray), mkS (⟨#[(38 : UInt8), (97 : UInt8), (109 : UInt8), (112 : UInt8), (59 : UInt8)]⟩ : ByteArray), mkS (⟨#[(60 : UInt8)]⟩ : ByteArray), mkS (⟨#[(38 : UInt8), (108 : UInt8), (116 : UInt8), (59 : UInt8)]⟩ : ByteArray), mkS (⟨#[(62 : UInt8)]⟩ : ByteArray), mkS (⟨#[(38 : UInt8), (103 : UInt8), (116 : UInt8), (59 : UInt8)]⟩ : ByteArray), mkS (⟨#[(34 : UInt8)]⟩ : ByteArray), mkS (⟨#[(38 : UInt8), (113 : UInt8), (117 : UInt8), (111 : UInt8), (116 : UInt8), (59 : UInt8)]⟩ : ByteArray), mkS (⟨#[(39 : UInt8)]⟩ : ByteArray), mkS (⟨#[(38 : UInt8), (97 : UInt8), (112 : UInt8), (111 : UInt8), (115 : UInt8), (59 : UInt8)]⟩ : ByteArray)]]⟩)) (
    FamNext st2 inv2 μ2 k2 ⟨[mkS s, AV.jk, AV.jk, AV.jk, mkS out, AV.rf (0 : Nat) (0 : Nat), mkI IntKind.i64 i, mkS t, mkI IntKind.i64 n, mkI IntKind.i64 (IntKind.wrap IntKind.i64 ((4 : Int) + (1 : Int))), AV.jk, AV.jk, AV.jk, AV.jk, AV.jk, AV.jk, AV.jk, AV.jk, AV.jk, AV.jk, AV.jk, AV.jk, AV.jk, AV.jk, AV.jk, AV.jk, AV.jk, AV.jk, AV.jk, AV.jk, AV.jk, AV.jk, AV.jk, AV.jk, AV.jk, AV.jk, AV.jk, AV.jk, AV.jk, AV.jk, AV.jk, AV.jk, AV.jk, AV.jk, AV.jk, AV.jk, AV.jk, AV.jk, AV.jk, AV.jk, AV.jk, AV.jk, AV.jk, AV.jk, AV.jk, AV.jk, AV.jk, AV.jk, AV.jk, AV.jk, AV.jk, AV.jk, AV.jk, AV.jk, AV.jk, AV.jk, AV.jk, AV.jk, AV.jk, AV.jk, AV.jk, AV.jk, AV.jk], [Ob.box [mkS (⟨#[(38 : UInt8)]⟩ : ByteArray), mkS (⟨#[(38 : UInt8), (97 : UInt8), (109 : UInt8), (112 : UInt8), (59 : UInt8)]⟩ : ByteArray), mkS (⟨#[(60 : UInt8)]⟩ : ByteArray), mkS (⟨#[(38 : UInt8), (108 : UInt8), (116 : UInt8), (59 : UInt8)]⟩ : ByteArray), mkS (⟨#[(62 : UInt8)]⟩ : ByteArray), mkS (⟨#[(38 : UInt8), (103 : UInt8), (116 : UInt8), (59 : UInt8)]⟩ : ByteArray), mkS (⟨#[(34 : UInt8)]⟩ : ByteArray), mkS (⟨#[(38 : UInt8), (113 : UInt8), (117 : UInt8), (111 : UInt8), (116 : UInt8), (59 : UInt8)]⟩ : ByteArray), mkS (⟨#[(39 : UInt8)]⟩ : ByteArray), mkS (⟨#[(38 : UInt8), (97 : UInt8), (112 : UInt8), (111 : UInt8), (115 : UInt8), (59 : UInt8)]⟩ : ByteArray)]]⟩))) := by kernel_rfl

theorem r18_c5 {ι : Type} (st : ι → S) (inv : ι → Prop) (μ : ι → Nat) (k : ι) {ι2 : Type} (st2 : ι2 → S) (inv2 : ι2 → Prop) (μ2 : ι2 → Nat) (k2 : ι2) (s out t : ByteArray) (i n : Int) (q : AV → Prop) :
  (aCode Tryd.K G18 (cAt [1, 1, 1, 1, 0, 1, 0, 0, 1, 0, 1, 1, 0, 1, 0, 1, 0, 1, 0, 0] Tryd.b18) (kFamM [] m18c st2 inv2 μ2 k2 (r18_b_k0 st inv μ k q)) (st18c s out t i n 5)) = (
  bcase (n == (0 : Int)) (
   q (AV.tp [mkS (⟨#[]⟩ : ByteArray), mkI IntKind.i64 (3 : Int)])) (
   (((ByteArray.size out) + (ByteArray.size t)) ≤ LIM) ∧
   FamNext st inv μ k ⟨[mkS s, AV.jk, AV.jk, AV.jk, mkS (out ++ t), AV.rf (0 : Nat) (0 : Nat), mkI IntKind.i64 (IntKind.wrap IntKind.i64 (i + n)), AV.jk, AV.jk, AV.jk, AV.jk, AV.jk, AV.jk, AV.jk, AV.jk, AV.jk, AV.jk, AV.jk, AV.jk, AV.jk, AV.jk, AV.jk, AV.jk, AV.jk, AV.jk, AV.jk, AV.jk, AV.jk, AV.jk, AV.jk, AV.jk, AV.jk, AV.jk, AV.jk, AV.jk, AV.jk, AV.jk, AV.jk, AV.jk, AV.jk, AV.jk, AV.jk, AV.jk, AV.jk, AV.jk, AV.jk, AV.jk, AV.jk, AV.jk, AV.jk, AV.jk, AV.jk, AV.jk, AV.jk, AV.jk, AV.jk, AV.jk, AV.jk, AV.jk, AV.jk, AV.jk, AV.jk, AV.jk, AV.jk, AV.jk, AV.jk, AV.jk, AV.jk, AV.jk, AV.jk, AV.jk, AV.jk, AV.jk], [Ob.box [mkS (⟨#[(38 : UInt8)]⟩ : ByteArray), mkS (⟨#[(38 : UInt8), (97 : UInt8), (109 : UInt8), (112 : UInt8), (59 : UInt8)]⟩ : ByteArray), mkS (⟨#[(60 : UInt8)]⟩ : ByteArray), mkS (⟨#[(38 : UInt8), (108 : UInt8), (116 : UInt8), (59 : UInt8)]⟩ : ByteArray), mkS (⟨#[(62 : UInt8)]⟩ : ByteArray), mkS (⟨#[(38 : UInt8), (103 : UInt8), (116 : UInt8), (59 : UInt8)]⟩ : ByteArray), mkS (⟨#[(34 : UInt8)]⟩ : ByteArray), mkS (⟨#[(38 : UInt8), (113 : UInt8), (117 : UInt8), (111 : UInt8), (116 : UInt8), (59 : UInt8)]⟩ : ByteArray), mkS (⟨#[(39 : UInt8)]⟩ : ByteArray), mkS (⟨#[(38 : UInt8), (97 : UInt8), (112 : UInt8), (111 : UInt8), (115 : UInt8), (59 : UInt8)]⟩ : ByteArray)]]⟩)) := by kernel_rfl

/-- The signs, and what stands for them. -/
def entW (k : Nat) : UInt8 × List UInt8 := [(38, [38, 97, 109, 112, 59]), (60, [38, 108, 116, 59]), (62, [38, 103, 116, 59]), (34, [38, 113, 117, 111, 116, 59]), (39, [38, 97, 112, 111, 115, 59])].getD k (0, [])
def entK (l : List UInt8) (c : UInt8) : Nat → UInt8 × Nat
  | 0 => (c, 0)
  | k + 1 => if (entW k).2.isPrefixOf l then ((entW k).1, (entW k).2.length) else entK l c k
theorem entK_end (l : List UInt8) (c : UInt8) : entL l = if (entK l c 5).2 = 0 then none else some (entK l c 5) := by
  unfold entL
  simp only [entK, entW, List.getD_cons_zero, List.getD_cons_succ]
  split
  · rfl
  split
  · rfl
  split
  · rfl
  split
  · rfl
  split
  · rfl
  · rfl
theorem pre_test {s w : ByteArray} {i : Nat} (hi : i ≤ s.size) : w.data.toList.isPrefixOf (s.data.toList.drop i) = decide (i + w.size ≤ s.size ∧ s.extract i (i + w.size) = w) := by
  rw [Bool.eq_iff_iff, List.isPrefixOf_iff_prefix, decide_eq_true_eq, List.prefix_iff_eq_take, dl]
  have e : (s.extract i (i + w.size)).data.toList = (s.data.toList.drop i).take w.size := by rw [ext_list, List.take_drop]
  constructor
  · intro h
    have h2 := congrArg List.length h
    rw [dl, List.length_take, List.length_drop, dl] at h2
    exact ⟨by omega, ba_ext (by rw [e]; exact h.symm)⟩
  · rintro ⟨h1, h2⟩
    rw [← e, h2]
theorem ext_one {s : ByteArray} {i : Nat} (hi : i < s.size) : s.extract i (i + 1) = ⟨#[s.data.toList.getD i 0]⟩ := by
  refine ba_ext ?_
  have hlt : i < s.data.toList.length := by rw [dl]; exact hi
  rw [ext_list, List.drop_take, List.drop_eq_getElem_cons hlt, List.getD_eq_getElem?_getD, List.getElem?_eq_getElem hlt, show i + 1 - i = 0 + 1 by omega, List.take_succ_cons]
  rfl
theorem drop_one {s : ByteArray} {i : Nat} (hi : i < s.size) : s.data.toList.drop i = s.data.toList.getD i 0 :: s.data.toList.drop (i + 1) := by
  have hlt : i < s.data.toList.length := by rw [dl]; exact hi
  rw [List.drop_eq_getElem_cons hlt, List.getD_eq_getElem?_getD, List.getElem?_eq_getElem hlt]; rfl
theorem snoc_bytes (acc : List UInt8) (c : UInt8) : (⟨acc.toArray⟩ : ByteArray) ++ ⟨#[c]⟩ = ⟨(acc ++ [c]).toArray⟩ := by
  refine ba_ext ?_
  rw [ByteArray.data_append, Array.toList_append]
theorem size_list (acc : List UInt8) : (⟨acc.toArray⟩ : ByteArray).size = acc.length := by show acc.toArray.size = _; simp
theorem entK_len (l : List UInt8) (c : UInt8) (hc : l.take 1 = [c]) (k : Nat) (hk : k ≤ 5) : (entK l c k).2 ≤ l.length := by
  induction k with
  | zero => exact Nat.zero_le _
  | succ k ih =>
    unfold entK
    split
    · rename_i h
      exact (List.isPrefixOf_iff_prefix.1 h).length_le
    · exact ih (by omega)

theorem c18 : PSound Tryd.prog 18 (detE F29) := by
  refine det_fn (c := Tryd.b18) mixed Tryd.K_ok (gsound_det c23 (gsound_det c24 gsound_nil)) Tryd.func18 rfl rfl Tryd.call18 fun al p r q hF hp hq => ?_
  unfold F29 at hF; split at hF <;> cases hF
  rename_i s
  rw [unesc_ref] at hq
  refine cast (r18 s q).symm ⟨trivial, bcase_mk (fun h => ?_) (fun h => ⟨trivial, ?_⟩)⟩
  · have h : ¬ rightB s = true := fun e => by rw [e] at h; simp at h
    rw [if_neg h] at hq; exact hq
  have h : rightB s = true := by
    cases e : rightB s with
    | true => rfl
    | false => rw [e] at h; simp at h
  rw [if_pos h] at hq
  obtain ⟨U, hU⟩ : ∃ U, unR (s.size + 1) s.data.toList [] = U := ⟨_, rfl⟩
  rw [hU] at hq
  refine ALoop.introM [] m18 (fun x : Nat × Nat × List UInt8 => st18 s ⟨x.2.2.toArray⟩ x.2.1) (fun x => x.2.1 ≤ s.size ∧ s.size - x.2.1 < x.1 ∧ x.2.2.length ≤ x.2.1 ∧ unR x.1 (s.data.toList.drop x.2.1) x.2.2 = U) (fun x => x.1) ⟨[], (s.size + 1, 0, []), by simp [S.le, sealAll, leL, leO, jks, st18, bx18], Nat.zero_le _, by simp only; omega, Nat.zero_le _, hU⟩ fun x ⟨hx1, hx2, hx3, hx4⟩ => ?_
  obtain ⟨f, i, acc⟩ := x
  simp only at hx1 hx2 hx3 hx4
  obtain ⟨f, rfl⟩ : ∃ g, f = g + 1 := ⟨f - 1, by omega⟩
  refine cast (r18_b _ _ _ _ s _ i q).symm fun hlim => bcase_dec (fun hlt => ?_) (fun hge => ?_)
  · have hlt : i < s.size := by omega
    have hw := wrap_succ hlt hlim
    have hc := byteAt_eq s i
    rw [drop_one hlt] at hx4
    unfold byteAt at hc
    have ex := ext_one hlt
    have hd : (s.data.toList.getD i 0 :: s.data.toList.drop (i + 1)) = s.data.toList.drop i := (drop_one hlt).symm
    simp only [Int.toNat_natCast, hw, ex]
    unfold unR at hx4
    refine ⟨⟨by omega, by omega, by omega⟩, ⟨by omega, by omega⟩, bcase_mk (fun h6 => ?_) (fun h6 => ⟨⟨by omega, by omega⟩, bcase_mk (fun h3 => ?_) (fun h3 => ?_)⟩)⟩
    · have h6 : s.data.toList.getD i 0 = 60 := (hc 60).1 (beq_iff_eq.1 h6)
      rw [if_pos h6] at hx4; subst hx4; exact hq
    · have h6 : ¬ s.data.toList.getD i 0 = 60 := fun e => beq_eq_false_iff_ne.1 h6 ((hc 60).2 e)
      have h3 : s.data.toList.getD i 0 = 38 := (hc 38).1 (beq_iff_eq.1 h3)
      rw [if_neg h6, if_pos h3, hd] at hx4
      have hll : (s.data.toList.drop i).length = s.size - i := by rw [List.length_drop, dl]
      have pt := fun w : ByteArray => pre_test (s := s) (w := w) hx1
      have hlen := fun k hk => entK_len (s.data.toList.drop i) (s.data.toList.getD i 0) (by rw [drop_one hlt]; rfl) k hk
      have hend := entK_end (s.data.toList.drop i) (s.data.toList.getD i 0)
      generalize s.data.toList.getD i 0 = c at hlen hend ⊢
      clear hc hw ex hd h6 h3
      refine ALoop.introM [] m18c (fun x : Nat × UInt8 × Nat => st18c s ⟨acc.toArray⟩ ⟨#[x.2.1]⟩ i x.2.2 x.1) (fun x => x.1 ≤ 5 ∧ entK (s.data.toList.drop i) c x.1 = x.2) (fun x => 5 - x.1) ⟨[], (0, c, 0), by simp [S.le, sealAll, leL, leO, jks, st18c, bx18], Nat.zero_le _, rfl⟩ fun x ⟨hk1, hk2⟩ => ?_
      obtain ⟨k, t, n⟩ := x
      simp only at hk1 hk2
      have w1 : IntKind.i64.wrap ((s.size : Int) - i) = ((s.size - i : Nat) : Int) := by unfold LIM at hlim; rw [IntWalk.i64_in _ (by omega)]; omega
      have w2 : ∀ w : ByteArray, w.size ≤ 6 → IntKind.i64.wrap ((i : Int) + (w.size : Int)) = ((i + w.size : Nat) : Int) := fun w hw => by unfold LIM at hlim; rw [IntWalk.i64_in _ (by omega)]; omega
      have hcase : k = 0 ∨ k = 1 ∨ k = 2 ∨ k = 3 ∨ k = 4 ∨ k = 5 := by omega
      rcases hcase with rfl | rfl | rfl | rfl | rfl | rfl
      · have pw := pt (⟨#[38, 97, 109, 112, 59]⟩ : ByteArray)
        have sz : (⟨#[38, 97, 109, 112, 59]⟩ : ByteArray).size = 5 := rfl
        have hs : entK (s.data.toList.drop i) c (0 + 1) = if (entW 0).2.isPrefixOf (s.data.toList.drop i) then ((entW 0).1, (entW 0).2.length) else entK (s.data.toList.drop i) c 0 := rfl
        have pw2 : (entW 0).2.isPrefixOf (s.data.toList.drop i) = decide (i + 5 ≤ s.size ∧ s.extract i (i + 5) = (⟨#[38, 97, 109, 112, 59]⟩ : ByteArray)) := pw
        have wk : IntKind.i64.wrap (0 + 1) = ((0 + 1 : Nat) : Int) := by decide
        refine cast (r18_c0 _ _ _ _ _ _ _ _ s _ _ i n q).symm ⟨by decide, by decide, fun _ _ => ?_⟩
        rw [w1, w2 (⟨#[38, 97, 109, 112, 59]⟩ : ByteArray) (by decide), wk]
        simp only [Int.toNat_natCast, sz]
        refine bcase_dec (fun h1 _ => ⟨⟨by omega, by omega, by omega⟩, bcase_dec (fun h2 => ⟨by decide, by decide, fun _ => ?_⟩) (fun h2 => ?_)⟩) (fun h1 => ?_)
        · rw [pw2, decide_eq_true ⟨by omega, h2⟩, if_pos rfl] at hs
          exact .mk [] (0 + 1, 38, 5) (by simp [S.le, sealAll, leL, leO, jks, st18c, bx18, S.fits, fitsL, AV.fits, Ob.fits]) ⟨by decide, hs⟩ (show 5 - (0 + 1) < 5 - 0 by decide)
        · rw [pw2, decide_eq_false (fun h => h2 h.2), if_neg (by simp)] at hs
          exact .mk [] (0 + 1, t, n) (by simp [S.le, sealAll, leL, leO, jks, st18c, bx18, S.fits, fitsL, AV.fits, Ob.fits]) ⟨show 0 + 1 ≤ 5 by decide, hs.trans hk2⟩ (show 5 - (0 + 1) < 5 - 0 by decide)
        · rw [pw2, decide_eq_false (fun h => h1 (by have := h.1; omega)), if_neg (by simp)] at hs
          exact .mk [] (0 + 1, t, n) (by simp [S.le, sealAll, leL, leO, jks, st18c, bx18, S.fits, fitsL, AV.fits, Ob.fits]) ⟨show 0 + 1 ≤ 5 by decide, hs.trans hk2⟩ (show 5 - (0 + 1) < 5 - 0 by decide)
      · have pw := pt (⟨#[38, 108, 116, 59]⟩ : ByteArray)
        have sz : (⟨#[38, 108, 116, 59]⟩ : ByteArray).size = 4 := rfl
        have hs : entK (s.data.toList.drop i) c (1 + 1) = if (entW 1).2.isPrefixOf (s.data.toList.drop i) then ((entW 1).1, (entW 1).2.length) else entK (s.data.toList.drop i) c 1 := rfl
        have pw2 : (entW 1).2.isPrefixOf (s.data.toList.drop i) = decide (i + 4 ≤ s.size ∧ s.extract i (i + 4) = (⟨#[38, 108, 116, 59]⟩ : ByteArray)) := pw
        have wk : IntKind.i64.wrap (1 + 1) = ((1 + 1 : Nat) : Int) := by decide
        refine cast (r18_c1 _ _ _ _ _ _ _ _ s _ _ i n q).symm ⟨by decide, by decide, fun _ _ => ?_⟩
        rw [w1, w2 (⟨#[38, 108, 116, 59]⟩ : ByteArray) (by decide), wk]
        simp only [Int.toNat_natCast, sz]
        refine bcase_dec (fun h1 _ => ⟨⟨by omega, by omega, by omega⟩, bcase_dec (fun h2 => ⟨by decide, by decide, fun _ => ?_⟩) (fun h2 => ?_)⟩) (fun h1 => ?_)
        · rw [pw2, decide_eq_true ⟨by omega, h2⟩, if_pos rfl] at hs
          exact .mk [] (1 + 1, 60, 4) (by simp [S.le, sealAll, leL, leO, jks, st18c, bx18, S.fits, fitsL, AV.fits, Ob.fits]) ⟨by decide, hs⟩ (show 5 - (1 + 1) < 5 - 1 by decide)
        · rw [pw2, decide_eq_false (fun h => h2 h.2), if_neg (by simp)] at hs
          exact .mk [] (1 + 1, t, n) (by simp [S.le, sealAll, leL, leO, jks, st18c, bx18, S.fits, fitsL, AV.fits, Ob.fits]) ⟨show 1 + 1 ≤ 5 by decide, hs.trans hk2⟩ (show 5 - (1 + 1) < 5 - 1 by decide)
        · rw [pw2, decide_eq_false (fun h => h1 (by have := h.1; omega)), if_neg (by simp)] at hs
          exact .mk [] (1 + 1, t, n) (by simp [S.le, sealAll, leL, leO, jks, st18c, bx18, S.fits, fitsL, AV.fits, Ob.fits]) ⟨show 1 + 1 ≤ 5 by decide, hs.trans hk2⟩ (show 5 - (1 + 1) < 5 - 1 by decide)
      · have pw := pt (⟨#[38, 103, 116, 59]⟩ : ByteArray)
        have sz : (⟨#[38, 103, 116, 59]⟩ : ByteArray).size = 4 := rfl
        have hs : entK (s.data.toList.drop i) c (2 + 1) = if (entW 2).2.isPrefixOf (s.data.toList.drop i) then ((entW 2).1, (entW 2).2.length) else entK (s.data.toList.drop i) c 2 := rfl
        have pw2 : (entW 2).2.isPrefixOf (s.data.toList.drop i) = decide (i + 4 ≤ s.size ∧ s.extract i (i + 4) = (⟨#[38, 103, 116, 59]⟩ : ByteArray)) := pw
        have wk : IntKind.i64.wrap (2 + 1) = ((2 + 1 : Nat) : Int) := by decide
        refine cast (r18_c2 _ _ _ _ _ _ _ _ s _ _ i n q).symm ⟨by decide, by decide, fun _ _ => ?_⟩
        rw [w1, w2 (⟨#[38, 103, 116, 59]⟩ : ByteArray) (by decide), wk]
        simp only [Int.toNat_natCast, sz]
        refine bcase_dec (fun h1 _ => ⟨⟨by omega, by omega, by omega⟩, bcase_dec (fun h2 => ⟨by decide, by decide, fun _ => ?_⟩) (fun h2 => ?_)⟩) (fun h1 => ?_)
        · rw [pw2, decide_eq_true ⟨by omega, h2⟩, if_pos rfl] at hs
          exact .mk [] (2 + 1, 62, 4) (by simp [S.le, sealAll, leL, leO, jks, st18c, bx18, S.fits, fitsL, AV.fits, Ob.fits]) ⟨by decide, hs⟩ (show 5 - (2 + 1) < 5 - 2 by decide)
        · rw [pw2, decide_eq_false (fun h => h2 h.2), if_neg (by simp)] at hs
          exact .mk [] (2 + 1, t, n) (by simp [S.le, sealAll, leL, leO, jks, st18c, bx18, S.fits, fitsL, AV.fits, Ob.fits]) ⟨show 2 + 1 ≤ 5 by decide, hs.trans hk2⟩ (show 5 - (2 + 1) < 5 - 2 by decide)
        · rw [pw2, decide_eq_false (fun h => h1 (by have := h.1; omega)), if_neg (by simp)] at hs
          exact .mk [] (2 + 1, t, n) (by simp [S.le, sealAll, leL, leO, jks, st18c, bx18, S.fits, fitsL, AV.fits, Ob.fits]) ⟨show 2 + 1 ≤ 5 by decide, hs.trans hk2⟩ (show 5 - (2 + 1) < 5 - 2 by decide)
      · have pw := pt (⟨#[38, 113, 117, 111, 116, 59]⟩ : ByteArray)
        have sz : (⟨#[38, 113, 117, 111, 116, 59]⟩ : ByteArray).size = 6 := rfl
        have hs : entK (s.data.toList.drop i) c (3 + 1) = if (entW 3).2.isPrefixOf (s.data.toList.drop i) then ((entW 3).1, (entW 3).2.length) else entK (s.data.toList.drop i) c 3 := rfl
        have pw2 : (entW 3).2.isPrefixOf (s.data.toList.drop i) = decide (i + 6 ≤ s.size ∧ s.extract i (i + 6) = (⟨#[38, 113, 117, 111, 116, 59]⟩ : ByteArray)) := pw
        have wk : IntKind.i64.wrap (3 + 1) = ((3 + 1 : Nat) : Int) := by decide
        refine cast (r18_c3 _ _ _ _ _ _ _ _ s _ _ i n q).symm ⟨by decide, by decide, fun _ _ => ?_⟩
        rw [w1, w2 (⟨#[38, 113, 117, 111, 116, 59]⟩ : ByteArray) (by decide), wk]
        simp only [Int.toNat_natCast, sz]
        refine bcase_dec (fun h1 _ => ⟨⟨by omega, by omega, by omega⟩, bcase_dec (fun h2 => ⟨by decide, by decide, fun _ => ?_⟩) (fun h2 => ?_)⟩) (fun h1 => ?_)
        · rw [pw2, decide_eq_true ⟨by omega, h2⟩, if_pos rfl] at hs
          exact .mk [] (3 + 1, 34, 6) (by simp [S.le, sealAll, leL, leO, jks, st18c, bx18, S.fits, fitsL, AV.fits, Ob.fits]) ⟨by decide, hs⟩ (show 5 - (3 + 1) < 5 - 3 by decide)
        · rw [pw2, decide_eq_false (fun h => h2 h.2), if_neg (by simp)] at hs
          exact .mk [] (3 + 1, t, n) (by simp [S.le, sealAll, leL, leO, jks, st18c, bx18, S.fits, fitsL, AV.fits, Ob.fits]) ⟨show 3 + 1 ≤ 5 by decide, hs.trans hk2⟩ (show 5 - (3 + 1) < 5 - 3 by decide)
        · rw [pw2, decide_eq_false (fun h => h1 (by have := h.1; omega)), if_neg (by simp)] at hs
          exact .mk [] (3 + 1, t, n) (by simp [S.le, sealAll, leL, leO, jks, st18c, bx18, S.fits, fitsL, AV.fits, Ob.fits]) ⟨show 3 + 1 ≤ 5 by decide, hs.trans hk2⟩ (show 5 - (3 + 1) < 5 - 3 by decide)
      · have pw := pt (⟨#[38, 97, 112, 111, 115, 59]⟩ : ByteArray)
        have sz : (⟨#[38, 97, 112, 111, 115, 59]⟩ : ByteArray).size = 6 := rfl
        have hs : entK (s.data.toList.drop i) c (4 + 1) = if (entW 4).2.isPrefixOf (s.data.toList.drop i) then ((entW 4).1, (entW 4).2.length) else entK (s.data.toList.drop i) c 4 := rfl
        have pw2 : (entW 4).2.isPrefixOf (s.data.toList.drop i) = decide (i + 6 ≤ s.size ∧ s.extract i (i + 6) = (⟨#[38, 97, 112, 111, 115, 59]⟩ : ByteArray)) := pw
        have wk : IntKind.i64.wrap (4 + 1) = ((4 + 1 : Nat) : Int) := by decide
        refine cast (r18_c4 _ _ _ _ _ _ _ _ s _ _ i n q).symm ⟨by decide, by decide, fun _ _ => ?_⟩
        rw [w1, w2 (⟨#[38, 97, 112, 111, 115, 59]⟩ : ByteArray) (by decide), wk]
        simp only [Int.toNat_natCast, sz]
        refine bcase_dec (fun h1 _ => ⟨⟨by omega, by omega, by omega⟩, bcase_dec (fun h2 => ⟨by decide, by decide, fun _ => ?_⟩) (fun h2 => ?_)⟩) (fun h1 => ?_)
        · rw [pw2, decide_eq_true ⟨by omega, h2⟩, if_pos rfl] at hs
          exact .mk [] (4 + 1, 39, 6) (by simp [S.le, sealAll, leL, leO, jks, st18c, bx18, S.fits, fitsL, AV.fits, Ob.fits]) ⟨by decide, hs⟩ (show 5 - (4 + 1) < 5 - 4 by decide)
        · rw [pw2, decide_eq_false (fun h => h2 h.2), if_neg (by simp)] at hs
          exact .mk [] (4 + 1, t, n) (by simp [S.le, sealAll, leL, leO, jks, st18c, bx18, S.fits, fitsL, AV.fits, Ob.fits]) ⟨show 4 + 1 ≤ 5 by decide, hs.trans hk2⟩ (show 5 - (4 + 1) < 5 - 4 by decide)
        · rw [pw2, decide_eq_false (fun h => h1 (by have := h.1; omega)), if_neg (by simp)] at hs
          exact .mk [] (4 + 1, t, n) (by simp [S.le, sealAll, leL, leO, jks, st18c, bx18, S.fits, fitsL, AV.fits, Ob.fits]) ⟨show 4 + 1 ≤ 5 by decide, hs.trans hk2⟩ (show 5 - (4 + 1) < 5 - 4 by decide)
      · rw [hk2] at hend
        have hn5 := hlen 5 (Nat.le_refl _)
        rw [hk2] at hn5
        simp only at hend hn5
        refine cast (r18_c5 _ _ _ _ _ _ _ _ s _ _ i n q).symm (bcase_mk (fun h => ?_) (fun h => ?_))
        · have h : n = 0 := by have := beq_iff_eq.1 h; omega
          rw [if_pos h] at hend
          rw [hend] at hx4; subst hx4; exact hq
        · have h : ¬ n = 0 := by have := beq_eq_false_iff_ne.1 h; omega
          rw [if_neg h] at hend
          rw [hend] at hx4
          simp only at hx4
          have w3 : IntKind.i64.wrap ((i : Int) + (n : Int)) = ((i + n : Nat) : Int) := by unfold LIM at hlim; rw [IntWalk.i64_in _ (by omega)]; omega
          have e1 : (⟨#[t]⟩ : ByteArray).size = 1 := rfl
          refine ⟨by rw [size_list, e1]; omega, ?_⟩
          rw [snoc_bytes, w3]
          rw [List.drop_drop] at hx4
          refine .mk [] (f, i + n, acc ++ [t]) (by simp [S.le, sealAll, leL, leO, jks, st18, bx18, S.fits, fitsL, AV.fits, Ob.fits]) ⟨by simp only; omega, by simp only; omega, by simp only [List.length_append, List.length_singleton]; omega, hx4⟩ (Nat.lt_succ_self f)
    · have h6 : ¬ s.data.toList.getD i 0 = 60 := fun e => beq_eq_false_iff_ne.1 h6 ((hc 60).2 e)
      have h3 : ¬ s.data.toList.getD i 0 = 38 := fun e => beq_eq_false_iff_ne.1 h3 ((hc 38).2 e)
      rw [if_neg h6, if_neg h3] at hx4
      have e1 : (⟨#[s.data.toList.getD i 0]⟩ : ByteArray).size = 1 := rfl
      refine ⟨by rw [size_list, e1]; omega, ?_⟩
      rw [snoc_bytes]
      refine .mk [] (f, i + 1, acc ++ [s.data.toList.getD i 0]) (by simp [S.le, sealAll, leL, leO, jks, st18, bx18, S.fits, fitsL, AV.fits, Ob.fits]) ⟨by simp only; omega, by simp only; omega, by simp only [List.length_append, List.length_singleton]; omega, hx4⟩ (Nat.lt_succ_self f)
  · have hie : i = s.size := by omega
    have hnil : s.data.toList.drop i = [] := List.drop_eq_nil_of_le (by rw [dl]; omega)
    rw [hnil, unR] at hx4
    subst hx4; exact hq

-- the document's attr
noncomputable abbrev G28 : List (FuncId × En) := [(25, .det F25), (26, .det F26), (18, .det F29)]
noncomputable def r28_k0 (q : AV → Prop) : Kont := kBlk (0 : Nat) (kSeq (aCode Tryd.K YtfdecpfcphghlaaDoor.G28 (cAt [1, 1, 1, 1, 1] Tryd.b28) (kRet Tryd.K (Array.toList (Func.results Tryd.f28)) q)) (kRet Tryd.K (Array.toList (Func.results Tryd.f28)) q))
theorem r28 (s : ByteArray) (q : AV → Prop) :
  (aCode Tryd.K G28 Tryd.b28 (kRet Tryd.K Tryd.f28.results.toList q) ⟨[mkS s] ++ List.replicate (Tryd.f28.ntmps - 1) .jk, []⟩) = (
  True ∧
  (((0 : Int) ≤ ((YtfdecpfcphghlaaDoor.runN s) : Int)) ∧ (((YtfdecpfcphghlaaDoor.runN s) : Int) ≤ ((ByteArray.size s) : Int))) ∧
  True ∧
  bcase (!(YtfdecpfcphghlaaDoor.nameB (ByteArray.extract s (0 : Nat) (Int.toNat ((YtfdecpfcphghlaaDoor.runN s) : Int))))) (
   q (AV.tp [AV.ag [mkS (⟨#[]⟩ : ByteArray), mkS (⟨#[]⟩ : ByteArray)], mkI IntKind.i64 (0 : Int)])) (
   ((ByteArray.size s) ≤ LIM) →
   bcase (decide ((IntKind.wrap IntKind.i64 (((YtfdecpfcphghlaaDoor.runN s) : Int) + (2 : Int))) > ((ByteArray.size s) : Int))) (
    q (AV.tp [AV.ag [mkS (⟨#[]⟩ : ByteArray), mkS (⟨#[]⟩ : ByteArray)], mkI IntKind.i64 (0 : Int)])) (
    (((0 : Int) ≤ ((YtfdecpfcphghlaaDoor.runN s) : Int)) ∧ (((YtfdecpfcphghlaaDoor.runN s) : Int) < ((ByteArray.size s) : Int))) ∧
    bcase (((UInt8.toNat (List.getD (Array.toList (ByteArray.data s)) (Int.toNat ((YtfdecpfcphghlaaDoor.runN s) : Int)) (0 : UInt8))) : Int) != (61 : Int)) (
     q (AV.tp [AV.ag [mkS (⟨#[]⟩ : ByteArray), mkS (⟨#[]⟩ : ByteArray)], mkI IntKind.i64 (0 : Int)])) (
     (((0 : Int) ≤ (IntKind.wrap IntKind.i64 (((YtfdecpfcphghlaaDoor.runN s) : Int) + (1 : Int)))) ∧ ((IntKind.wrap IntKind.i64 (((YtfdecpfcphghlaaDoor.runN s) : Int) + (1 : Int))) < ((ByteArray.size s) : Int))) ∧
     bcase (((UInt8.toNat (List.getD (Array.toList (ByteArray.data s)) (Int.toNat (IntKind.wrap IntKind.i64 (((YtfdecpfcphghlaaDoor.runN s) : Int) + (1 : Int)))) (0 : UInt8))) : Int) != (34 : Int)) (
      (((0 : Int) ≤ (IntKind.wrap IntKind.i64 (((YtfdecpfcphghlaaDoor.runN s) : Int) + (1 : Int)))) ∧ ((IntKind.wrap IntKind.i64 (((YtfdecpfcphghlaaDoor.runN s) : Int) + (1 : Int))) < ((ByteArray.size s) : Int))) ∧
      bcase (((UInt8.toNat (List.getD (Array.toList (ByteArray.data s)) (Int.toNat (IntKind.wrap IntKind.i64 (((YtfdecpfcphghlaaDoor.runN s) : Int) + (1 : Int)))) (0 : UInt8))) : Int) != (39 : Int)) (
       q (AV.tp [AV.ag [mkS (⟨#[]⟩ : ByteArray), mkS (⟨#[]⟩ : ByteArray)], mkI IntKind.i64 (0 : Int)])) (
       ALoop (aCode Tryd.K YtfdecpfcphghlaaDoor.G28 (cAt [1, 1, 1, 1, 0, 0, 0] Tryd.b28)) (YtfdecpfcphghlaaDoor.r28_k0 q) ⟨[mkS s, AV.jk, AV.rf 0 (0 : Nat), mkI IntKind.i64 (0 : Int), mkI IntKind.i64 ((YtfdecpfcphghlaaDoor.runN s) : Int), mkI IntKind.i64 (IntKind.wrap IntKind.i64 (((YtfdecpfcphghlaaDoor.runN s) : Int) + (2 : Int))), AV.jk, AV.jk, mkS s, mkI IntKind.i64 ((YtfdecpfcphghlaaDoor.runN s) : Int), mkS s, mkI IntKind.i64 ((YtfdecpfcphghlaaDoor.runN s) : Int), mkS (ByteArray.extract s (0 : Nat) (Int.toNat ((YtfdecpfcphghlaaDoor.runN s) : Int))), mkB (YtfdecpfcphghlaaDoor.nameB (ByteArray.extract s (0 : Nat) (Int.toNat ((YtfdecpfcphghlaaDoor.runN s) : Int)))), mkB (!(YtfdecpfcphghlaaDoor.nameB (ByteArray.extract s (0 : Nat) (Int.toNat ((YtfdecpfcphghlaaDoor.runN s) : Int))))), mkB false, mkI IntKind.i64 ((YtfdecpfcphghlaaDoor.runN s) : Int), mkI IntKind.i64 (IntKind.wrap IntKind.i64 (((YtfdecpfcphghlaaDoor.runN s) : Int) + (2 : Int))), mkS s, mkI IntKind.i64 ((ByteArray.size s) : Int), mkB (decide ((IntKind.wrap IntKind.i64 (((YtfdecpfcphghlaaDoor.runN s) : Int) + (2 : Int))) > ((ByteArray.size s) : Int))), mkB (decide ((IntKind.wrap IntKind.i64 (((YtfdecpfcphghlaaDoor.runN s) : Int) + (2 : Int))) > ((ByteArray.size s) : Int))), mkB false, mkS s, mkI IntKind.i64 ((YtfdecpfcphghlaaDoor.runN s) : Int), mkI IntKind.u8 ((UInt8.toNat (List.getD (Array.toList (ByteArray.data s)) (Int.toNat ((YtfdecpfcphghlaaDoor.runN s) : Int)) (0 : UInt8))) : Int), mkB (((UInt8.toNat (List.getD (Array.toList (ByteArray.data s)) (Int.toNat ((YtfdecpfcphghlaaDoor.runN s) : Int)) (0 : UInt8))) : Int) != (61 : Int)), mkB (((UInt8.toNat (List.getD (Array.toList (ByteArray.data s)) (Int.toNat ((YtfdecpfcphghlaaDoor.runN s) : Int)) (0 : UInt8))) : Int) != (61 : Int)), mkB false, mkS s, mkI IntKind.i64 ((YtfdecpfcphghlaaDoor.runN s) : Int), mkI IntKind.i64 (IntKind.wrap IntKind.i64 (((YtfdecpfcphghlaaDoor.runN s) : Int) + (1 : Int))), mkI IntKind.u8 ((UInt8.toNat (List.getD (Array.toList (ByteArray.data s)) (Int.toNat (IntKind.wrap IntKind.i64 (((YtfdecpfcphghlaaDoor.runN s) : Int) + (1 : Int)))) (0 : UInt8))) : Int), mkB (((UInt8.toNat (List.getD (Array.toList (ByteArray.data s)) (Int.toNat (IntKind.wrap IntKind.i64 (((YtfdecpfcphghlaaDoor.runN s) : Int) + (1 : Int)))) (0 : UInt8))) : Int) != (34 : Int)), mkB true, mkS s, mkI IntKind.i64 ((YtfdecpfcphghlaaDoor.runN s) : Int), mkI IntKind.i64 (IntKind.wrap IntKind.i64 (((YtfdecpfcphghlaaDoor.runN s) : Int) + (1 : Int))), mkI IntKind.u8 ((UInt8.toNat (List.getD (Array.toList (ByteArray.data s)) (Int.toNat (IntKind.wrap IntKind.i64 (((YtfdecpfcphghlaaDoor.runN s) : Int) + (1 : Int)))) (0 : UInt8))) : Int), mkB (((UInt8.toNat (List.getD (Array.toList (ByteArray.data s)) (Int.toNat (IntKind.wrap IntKind.i64 (((YtfdecpfcphghlaaDoor.runN s) : Int) + (1 : Int)))) (0 : UInt8))) : Int) != (39 : Int)), mkB (((UInt8.toNat (List.getD (Array.toList (ByteArray.data s)) (Int.toNat (IntKind.wrap IntKind.i64 (((YtfdecpfcphghlaaDoor.runN s) : Int) + (1 : Int)))) (0 : UInt8))) : Int) != (39 : Int)), mkB false, AV.jk, mkI IntKind.i64 ((YtfdecpfcphghlaaDoor.runN s) : Int), mkI IntKind.i64 (IntKind.wrap IntKind.i64 (((YtfdecpfcphghlaaDoor.runN s) : Int) + (2 : Int))), AV.jk, AV.jk, AV.jk, AV.jk, AV.jk, AV.jk, AV.jk, AV.jk, AV.jk, AV.jk, AV.jk, AV.jk, AV.jk, AV.jk, AV.jk, AV.jk, AV.jk, AV.jk, AV.jk, AV.jk, AV.jk, AV.jk, AV.jk, AV.jk, AV.jk, AV.jk, AV.jk, AV.jk, AV.jk, AV.jk, AV.jk, AV.jk, AV.jk, AV.jk, AV.jk, AV.jk, AV.jk, AV.jk, AV.jk, AV.jk], [Ob.box [mkS (⟨#[]⟩ : ByteArray), mkS (⟨#[]⟩ : ByteArray)]]⟩)) (
      ALoop (aCode Tryd.K YtfdecpfcphghlaaDoor.G28 (cAt [1, 1, 1, 1, 0, 0, 0] Tryd.b28)) (YtfdecpfcphghlaaDoor.r28_k0 q) ⟨[mkS s, AV.jk, AV.rf 0 (0 : Nat), mkI IntKind.i64 (0 : Int), mkI IntKind.i64 ((YtfdecpfcphghlaaDoor.runN s) : Int), mkI IntKind.i64 (IntKind.wrap IntKind.i64 (((YtfdecpfcphghlaaDoor.runN s) : Int) + (2 : Int))), AV.jk, AV.jk, mkS s, mkI IntKind.i64 ((YtfdecpfcphghlaaDoor.runN s) : Int), mkS s, mkI IntKind.i64 ((YtfdecpfcphghlaaDoor.runN s) : Int), mkS (ByteArray.extract s (0 : Nat) (Int.toNat ((YtfdecpfcphghlaaDoor.runN s) : Int))), mkB (YtfdecpfcphghlaaDoor.nameB (ByteArray.extract s (0 : Nat) (Int.toNat ((YtfdecpfcphghlaaDoor.runN s) : Int)))), mkB (!(YtfdecpfcphghlaaDoor.nameB (ByteArray.extract s (0 : Nat) (Int.toNat ((YtfdecpfcphghlaaDoor.runN s) : Int))))), mkB false, mkI IntKind.i64 ((YtfdecpfcphghlaaDoor.runN s) : Int), mkI IntKind.i64 (IntKind.wrap IntKind.i64 (((YtfdecpfcphghlaaDoor.runN s) : Int) + (2 : Int))), mkS s, mkI IntKind.i64 ((ByteArray.size s) : Int), mkB (decide ((IntKind.wrap IntKind.i64 (((YtfdecpfcphghlaaDoor.runN s) : Int) + (2 : Int))) > ((ByteArray.size s) : Int))), mkB (decide ((IntKind.wrap IntKind.i64 (((YtfdecpfcphghlaaDoor.runN s) : Int) + (2 : Int))) > ((ByteArray.size s) : Int))), mkB false, mkS s, mkI IntKind.i64 ((YtfdecpfcphghlaaDoor.runN s) : Int), mkI IntKind.u8 ((UInt8.toNat (List.getD (Array.toList (ByteArray.data s)) (Int.toNat ((YtfdecpfcphghlaaDoor.runN s) : Int)) (0 : UInt8))) : Int), mkB (((UInt8.toNat (List.getD (Array.toList (ByteArray.data s)) (Int.toNat ((YtfdecpfcphghlaaDoor.runN s) : Int)) (0 : UInt8))) : Int) != (61 : Int)), mkB (((UInt8.toNat (List.getD (Array.toList (ByteArray.data s)) (Int.toNat ((YtfdecpfcphghlaaDoor.runN s) : Int)) (0 : UInt8))) : Int) != (61 : Int)), mkB false, mkS s, mkI IntKind.i64 ((YtfdecpfcphghlaaDoor.runN s) : Int), mkI IntKind.i64 (IntKind.wrap IntKind.i64 (((YtfdecpfcphghlaaDoor.runN s) : Int) + (1 : Int))), mkI IntKind.u8 ((UInt8.toNat (List.getD (Array.toList (ByteArray.data s)) (Int.toNat (IntKind.wrap IntKind.i64 (((YtfdecpfcphghlaaDoor.runN s) : Int) + (1 : Int)))) (0 : UInt8))) : Int), mkB (((UInt8.toNat (List.getD (Array.toList (ByteArray.data s)) (Int.toNat (IntKind.wrap IntKind.i64 (((YtfdecpfcphghlaaDoor.runN s) : Int) + (1 : Int)))) (0 : UInt8))) : Int) != (34 : Int)), mkB false, AV.tp [], AV.tp [], AV.tp [], AV.tp [], AV.tp [], mkB false, mkB false, AV.jk, mkI IntKind.i64 ((YtfdecpfcphghlaaDoor.runN s) : Int), mkI IntKind.i64 (IntKind.wrap IntKind.i64 (((YtfdecpfcphghlaaDoor.runN s) : Int) + (2 : Int))), AV.jk, AV.jk, AV.jk, AV.jk, AV.jk, AV.jk, AV.jk, AV.jk, AV.jk, AV.jk, AV.jk, AV.jk, AV.jk, AV.jk, AV.jk, AV.jk, AV.jk, AV.jk, AV.jk, AV.jk, AV.jk, AV.jk, AV.jk, AV.jk, AV.jk, AV.jk, AV.jk, AV.jk, AV.jk, AV.jk, AV.jk, AV.jk, AV.jk, AV.jk, AV.jk, AV.jk, AV.jk, AV.jk, AV.jk, AV.jk], [Ob.box [mkS (⟨#[]⟩ : ByteArray), mkS (⟨#[]⟩ : ByteArray)]]⟩))))) := by kernel_rfl

def st28 (s : ByteArray) (n e : Int) : S := ⟨[mkS s, .jk, .rf 0 0, .jk, mkI .i64 n, mkI .i64 e] ++ jks 79, [.box [mkS ⟨#[]⟩, mkS ⟨#[]⟩]]⟩
def m28 : List Bool := maskOf (st28 ⟨#[]⟩ 0 0)
theorem r28_b {ι : Type} (st : ι → S) (inv : ι → Prop) (μ : ι → Nat) (k : ι) (s : ByteArray) (n e : Int) (q : AV → Prop) :
  (aCode Tryd.K G28 (cAt [1, 1, 1, 1, 0, 0, 0] Tryd.b28) (kFamM [] m28 st inv μ k (r28_k0 q)) (st28 s n e)) = (
  ((ByteArray.size s) ≤ LIM) →
  bcase (decide (e < ((ByteArray.size s) : Int))) (
   (((0 : Int) ≤ e) ∧ (e < ((ByteArray.size s) : Int))) ∧
   (((0 : Int) ≤ (IntKind.wrap IntKind.i64 (n + (1 : Int)))) ∧ ((IntKind.wrap IntKind.i64 (n + (1 : Int))) < ((ByteArray.size s) : Int))) ∧
   bcase (((UInt8.toNat (List.getD (Array.toList (ByteArray.data s)) (Int.toNat e) (0 : UInt8))) : Int) != ((UInt8.toNat (List.getD (Array.toList (ByteArray.data s)) (Int.toNat (IntKind.wrap IntKind.i64 (n + (1 : Int)))) (0 : UInt8))) : Int)) (
    FamNext st inv μ k ⟨[mkS s, AV.jk, AV.rf (0 : Nat) (0 : Nat), AV.jk, mkI IntKind.i64 n, mkI IntKind.i64 (IntKind.wrap IntKind.i64 (e + (1 : Int))), AV.jk, AV.jk, AV.jk, AV.jk, AV.jk, AV.jk, AV.jk, AV.jk, AV.jk, AV.jk, AV.jk, AV.jk, AV.jk, AV.jk, AV.jk, AV.jk, AV.jk, AV.jk, AV.jk, AV.jk, AV.jk, AV.jk, AV.jk, AV.jk, AV.jk, AV.jk, AV.jk, AV.jk, AV.jk, AV.jk, AV.jk, AV.jk, AV.jk, AV.jk, AV.jk, AV.jk, AV.jk, AV.jk, AV.jk, AV.jk, AV.jk, AV.jk, AV.jk, AV.jk, AV.jk, AV.jk, AV.jk, AV.jk, AV.jk, AV.jk, AV.jk, AV.jk, AV.jk, AV.jk, AV.jk, AV.jk, AV.jk, AV.jk, AV.jk, AV.jk, AV.jk, AV.jk, AV.jk, AV.jk, AV.jk, AV.jk, AV.jk, AV.jk, AV.jk, AV.jk, AV.jk, AV.jk, AV.jk, AV.jk, AV.jk, AV.jk, AV.jk, AV.jk, AV.jk], [Ob.box [mkS (⟨#[]⟩ : ByteArray), mkS (⟨#[]⟩ : ByteArray)]]⟩) (
    ((ByteArray.size s) ≤ LIM) →
    bcase (e == ((ByteArray.size s) : Int)) (
     q (AV.tp [AV.ag [mkS (⟨#[]⟩ : ByteArray), mkS (⟨#[]⟩ : ByteArray)], mkI IntKind.i64 (0 : Int)])) (
     (((0 : Int) ≤ (IntKind.wrap IntKind.i64 (n + (2 : Int)))) ∧ (((IntKind.wrap IntKind.i64 (n + (2 : Int))) ≤ e) ∧ (e ≤ ((ByteArray.size s) : Int)))) ∧
     True ∧
     bcase ((Prod.snd (YtfdecpfcphghlaaDoor.unesc (ByteArray.extract s (Int.toNat (IntKind.wrap IntKind.i64 (n + (2 : Int)))) (Int.toNat e)))) != (0 : Int)) (
      q (AV.tp [AV.ag [mkS (⟨#[]⟩ : ByteArray), mkS (⟨#[]⟩ : ByteArray)], mkI IntKind.i64 (0 : Int)])) (
      (((0 : Int) ≤ n) ∧ (n ≤ ((ByteArray.size s) : Int))) ∧
      q (AV.tp [AV.ag [mkS (ByteArray.extract s (0 : Nat) (Int.toNat n)), mkS (Prod.fst (YtfdecpfcphghlaaDoor.unesc (ByteArray.extract s (Int.toNat (IntKind.wrap IntKind.i64 (n + (2 : Int)))) (Int.toNat e))))], mkI IntKind.i64 (IntKind.wrap IntKind.i64 (e + (1 : Int)))]))))) (
   ((ByteArray.size s) ≤ LIM) →
   bcase (e == ((ByteArray.size s) : Int)) (
    q (AV.tp [AV.ag [mkS (⟨#[]⟩ : ByteArray), mkS (⟨#[]⟩ : ByteArray)], mkI IntKind.i64 (0 : Int)])) (
    (((0 : Int) ≤ (IntKind.wrap IntKind.i64 (n + (2 : Int)))) ∧ (((IntKind.wrap IntKind.i64 (n + (2 : Int))) ≤ e) ∧ (e ≤ ((ByteArray.size s) : Int)))) ∧
    True ∧
    bcase ((Prod.snd (YtfdecpfcphghlaaDoor.unesc (ByteArray.extract s (Int.toNat (IntKind.wrap IntKind.i64 (n + (2 : Int)))) (Int.toNat e)))) != (0 : Int)) (
     q (AV.tp [AV.ag [mkS (⟨#[]⟩ : ByteArray), mkS (⟨#[]⟩ : ByteArray)], mkI IntKind.i64 (0 : Int)])) (
     (((0 : Int) ≤ n) ∧ (n ≤ ((ByteArray.size s) : Int))) ∧
     q (AV.tp [AV.ag [mkS (ByteArray.extract s (0 : Nat) (Int.toNat n)), mkS (Prod.fst (YtfdecpfcphghlaaDoor.unesc (ByteArray.extract s (Int.toNat (IntKind.wrap IntKind.i64 (n + (2 : Int)))) (Int.toNat e))))], mkI IntKind.i64 (IntKind.wrap IntKind.i64 (e + (1 : Int)))]))))) := by kernel_rfl

noncomputable def attrN (s : ByteArray) : Int := open Classical in if attrC s then ((attrE s + 1 : Nat) : Int) else 0
noncomputable def attrA (s : ByteArray) : ByteArray × ByteArray := open Classical in if attrC s then (attrT s).1 else (⟨#[]⟩, ⟨#[]⟩)
noncomputable def F28 : List AV → Option (Prop × AV) := fun al => match al with
  | [.d (.v (.string s))] => some (True, .tp [.ag [mkS (attrA s).1, mkS (attrA s).2], mkI .i64 (attrN s)])
  | _ => none
theorem c28 : PSound Tryd.prog 28 (detE F28) := by
  refine det_fn (c := Tryd.b28) mixed Tryd.K_ok (gsound_det c25 (gsound_det c26 (gsound_det c18 gsound_nil))) Tryd.func28 rfl rfl Tryd.call28 fun al p r q hF hp hq => ?_
  unfold F28 at hF; split at hF <;> cases hF
  rename_i s
  have hno : ¬ attrC s → q (.tp [.ag [mkS ⟨#[]⟩, mkS ⟨#[]⟩], mkI .i64 0]) := fun h => by
    rw [show attrA s = (⟨#[]⟩, ⟨#[]⟩) from if_neg h, show attrN s = 0 from if_neg h] at hq; exact hq
  have hyes : attrC s → q (.tp [.ag [mkS (s.extract 0 (runN s)), mkS (unesc (s.extract (runN s + 2) (attrE s))).1], mkI .i64 ((attrE s + 1 : Nat) : Int)]) := fun h => by
    rw [show attrA s = (attrT s).1 from if_pos h, show attrN s = ((attrE s + 1 : Nat) : Int) from if_pos h, attrT_yes h] at hq; exact hq
  clear hq
  have hle := runN_le s
  have hn := byteAt_eq s (runN s)
  unfold byteAt at hn
  refine cast (r28 s q).symm ?_
  simp only [Int.toNat_natCast]
  refine ⟨trivial, ⟨by omega, by omega⟩, trivial, bcase_mk (fun h => ?_) (fun h hlim => ?_)⟩
  · exact hno fun hc => by rw [hc.1] at h; cases h
  have h1 : nameB (s.extract 0 (runN s)) = true := by simpa using h
  have w1 : IntKind.i64.wrap ((runN s : Int) + 1) = ((runN s + 1 : Nat) : Int) := by unfold LIM at hlim; rw [IntWalk.i64_in _ (by omega)]; omega
  have w2 : IntKind.i64.wrap ((runN s : Int) + 2) = ((runN s + 2 : Nat) : Int) := by unfold LIM at hlim; rw [IntWalk.i64_in _ (by omega)]; omega
  simp only [w1, w2, Int.toNat_natCast]
  have hq1 := byteAt_eq s (runN s + 1)
  unfold byteAt at hq1
  refine bcase_dec (fun h2 => ?_) (fun h2 => ⟨⟨by omega, by omega⟩, bcase_mk (fun h3 => ?_) (fun h3 => ⟨⟨by omega, by omega⟩, ?_⟩)⟩)
  · exact hno fun hc => by have := hc.2.1; omega
  · exact hno fun hc => by
      have := hc.2.2.1
      unfold byteAt at this
      rw [this] at h3; cases h3
  have h2 : runN s + 2 ≤ s.size := by omega
  have h3 : byteAt s (runN s) = 61 := by
    unfold byteAt
    simpa using h3
  have lp : ∀ (s0 : S), (byteAt s (runN s + 1) = 34 ∨ byteAt s (runN s + 1) = 39) → s0.le (st28 s (runN s) ((runN s + 2 : Nat) : Int)) → ALoop (aCode Tryd.K G28 (cAt [1, 1, 1, 1, 0, 0, 0] Tryd.b28)) (r28_k0 q) s0 := by
    intro s0 h4 hs0
    refine ALoop.introM [] m28 (fun e : Nat => st28 s (runN s) e) (fun e => runN s + 2 ≤ e ∧ e ≤ s.size ∧ ∀ j, runN s + 2 ≤ j → j < e → s.data.toList.getD j 0 ≠ s.data.toList.getD (runN s + 1) 0) (fun e => s.size - e) ⟨[], runN s + 2, hs0, Nat.le_refl _, h2, fun j h1 h2 => absurd h2 (by omega)⟩ fun e ⟨he1, he2, hI⟩ => ?_
    -- the end is where the sign comes again
    have hE : (e < s.size → s.data.toList.getD e 0 = s.data.toList.getD (runN s + 1) 0) → attrE s = e := fun hx => by
      have : fstN (s.data.toList.getD (runN s + 1) 0) (s.data.toList.drop (runN s + 2)) = e - (runN s + 2) := by
        refine tw_len (by rw [List.length_drop, dl]; omega) (fun j hj => ?_) (fun h => ?_)
        · rw [getD_drop]
          simpa using hI (runN s + 2 + j) (by omega) (by omega)
        · rw [List.length_drop, dl] at h
          rw [getD_drop, show runN s + 2 + (e - (runN s + 2)) = e by omega]
          simpa using hx (by omega)
      unfold attrE
      omega
    have w3 : e < s.size → IntKind.i64.wrap ((e : Int) + 1) = ((e + 1 : Nat) : Int) := fun h => wrap_succ h hlim
    have fin : attrE s = e → (s.size ≤ LIM → bcase ((e : Int) == (s.size : Int)) (q (.tp [.ag [mkS ⟨#[]⟩, mkS ⟨#[]⟩], mkI .i64 0]))
        (((0 : Int) ≤ ((runN s + 2 : Nat) : Int) ∧ (((runN s + 2 : Nat) : Int) ≤ (e : Int)) ∧ ((e : Int) ≤ (s.size : Int))) ∧ True ∧
         bcase ((unesc (s.extract (runN s + 2) e)).2 != 0) (q (.tp [.ag [mkS ⟨#[]⟩, mkS ⟨#[]⟩], mkI .i64 0]))
          (((0 : Int) ≤ (runN s : Int) ∧ (runN s : Int) ≤ (s.size : Int)) ∧ q (.tp [.ag [mkS (s.extract 0 (runN s)), mkS (unesc (s.extract (runN s + 2) e)).1], mkI .i64 (IntKind.i64.wrap ((e : Int) + 1))])))) := by
      intro hEe _
      refine bcase_mk (fun h5 => ?_) (fun h5 => ⟨⟨by omega, by omega, by omega⟩, trivial, bcase_mk (fun h6 => ?_) (fun h6 => ⟨⟨by omega, by omega⟩, ?_⟩)⟩)
      · have h5 := beq_iff_eq.1 h5
        exact hno fun hc => by have := hc.2.2.2.2.1; omega
      · exact hno fun hc => by
          have := hc.2.2.2.2.2
          rw [hEe] at this
          rw [this] at h6; cases h6
      · have h5 := beq_eq_false_iff_ne.1 h5
        have h6 : (unesc (s.extract (runN s + 2) (attrE s))).2 = 0 := by rw [hEe]; simpa using h6
        rw [w3 (by omega)]
        have := hyes ⟨h1, h2, h3, h4, by omega, h6⟩
        rw [hEe] at this
        exact this
    refine cast (r28_b _ _ _ _ s (runN s) e q).symm fun hlim => ?_
    simp only [w1, w2, Int.toNat_natCast]
    refine bcase_dec (fun h5 => ⟨⟨by omega, by omega⟩, ⟨by omega, by omega⟩, bcase_mk (fun h6 => ?_) (fun h6 => ?_)⟩) (fun h5 => ?_)
    · have h6 : s.data.toList.getD e 0 ≠ s.data.toList.getD (runN s + 1) 0 := fun e => by rw [e] at h6; simp at h6
      rw [w3 (by omega)]
      refine .mk [] (e + 1) (by simp [S.le, sealAll, leL, leO, jks, st28, S.fits, fitsL, AV.fits, Ob.fits]) ⟨by omega, by omega, fun j j1 j2 => ?_⟩ (show s.size - (e + 1) < s.size - e by omega)
      by_cases ej : j = e
      · subst ej; exact h6
      · exact hI j j1 (by omega)
    · have h6 : s.data.toList.getD e 0 = s.data.toList.getD (runN s + 1) 0 := by
        have : ((s.data.toList.getD e 0).toNat : Int) = ((s.data.toList.getD (runN s + 1) 0).toNat : Int) := by simpa using h6
        exact UInt8.toNat_inj.1 (by omega)
      exact fin (hE fun _ => h6)
    · exact fin (hE fun h => absurd h (by omega))
  refine bcase_mk (fun h4 => ⟨⟨by omega, by omega⟩, bcase_mk (fun h5 => ?_) (fun h5 => ?_)⟩) (fun h4 => ?_)
  · refine hno fun hc => ?_
    have := hc.2.2.2.1
    unfold byteAt at this
    rcases this with e | e
    · rw [e] at h4; cases h4
    · rw [e] at h5; cases h5
  · refine lp _ (.inr ?_) (by simp [S.le, leL, leO, jks, st28])
    unfold byteAt; simpa using h5
  · refine lp _ (.inl ?_) (by simp [S.le, leL, leO, jks, st28])
    unfold byteAt; simpa using h4

end Go.Proofs.YtfdecpfcphghlaaDoor
