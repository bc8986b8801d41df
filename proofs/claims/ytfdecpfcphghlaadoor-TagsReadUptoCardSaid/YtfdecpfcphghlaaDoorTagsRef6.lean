import Derived.Test.YtfdecpfcphghlaaDoorTagsRef5
import Derived.Test.YtfdecpfcphghlaaDoorTagsLong
set_option linter.unusedSimpArgs false
set_option linter.unusedVariables false
namespace Go.Proofs.YtfdecpfcphghlaaDoor
open Go Go.AM Go.RowKit
attribute [local irreducible] aCode bcase

-- the document's Read
noncomputable abbrev G13 : List (FuncId × En) := [(18, .det F29), (19, .det F19)]
noncomputable def r13_k0 (q : AV → Prop) : Kont := kBlk (0 : Nat) (kSeq (aCode Tryd.K YtfdecpfcphghlaaDoor.G13 (cAt [1, 1, 1, 1] Tryd.b13) (kRet Tryd.K (Array.toList (Func.results Tryd.f13)) q)) (kRet Tryd.K (Array.toList (Func.results Tryd.f13)) q))
theorem r13 (s : ByteArray) (q : AV → Prop) :
  (aCode Tryd.K G13 Tryd.b13 (kRet Tryd.K Tryd.f13.results.toList q) ⟨[mkS s] ++ List.replicate (Tryd.f13.ntmps - 1) .jk, []⟩) = (
  ALoop (aCode Tryd.K YtfdecpfcphghlaaDoor.G13 (cAt [1, 1, 1, 0, 1, 0, 0] Tryd.b13)) (YtfdecpfcphghlaaDoor.r13_k0 q) ⟨[mkS s, AV.jk, AV.nl, mkI IntKind.i64 (0 : Int), mkI IntKind.i64 (0 : Int), AV.nl, mkI IntKind.i64 (0 : Int), mkB false, mkI IntKind.i64 (0 : Int), AV.jk, AV.jk, AV.jk, AV.jk, AV.jk, AV.jk, AV.jk, AV.jk, AV.jk, AV.jk, AV.jk, AV.jk, AV.jk, AV.jk, AV.jk, AV.jk, AV.jk, AV.jk, AV.jk, AV.jk, AV.jk, AV.jk, AV.jk, AV.jk, AV.jk, AV.jk, AV.jk, AV.jk, AV.jk, AV.jk, AV.jk, AV.jk, AV.jk, AV.jk, AV.jk, AV.jk, AV.jk, AV.jk, AV.jk, AV.jk, AV.jk, AV.jk, AV.jk, AV.jk, AV.jk, AV.jk, AV.jk, AV.jk, AV.jk, AV.jk, AV.jk, AV.jk, AV.jk, AV.jk, AV.jk, AV.jk, AV.jk, AV.jk, AV.jk, AV.jk, AV.jk, AV.jk, AV.jk, AV.jk, AV.jk, AV.jk, AV.jk, AV.jk, AV.jk, AV.jk, AV.jk, AV.jk, AV.jk, AV.jk, AV.jk, AV.jk, AV.jk, AV.jk, AV.jk, AV.jk, AV.jk, AV.jk, AV.jk], []⟩) := by kernel_rfl

def st13 (s : ByteArray) (frm i : Int) (tag : Bool) (ts : List (List D)) : S := ⟨[mkS s, .jk, .jk, .jk, .jk, .vw 0 ts.length, mkI .i64 frm, mkB tag, mkI .i64 i] ++ jks 83, [.row 4 ts]⟩
def m13 : List Bool := maskOf (st13 ⟨#[]⟩ 0 0 false [])
theorem r13_bf {ι : Type} (st : ι → S) (inv : ι → Prop) (μ : ι → Nat) (k : ι) (s : ByteArray) (frm i : Int) (ts : List (List D)) (q : AV → Prop) :
  (aCode Tryd.K G13 (cAt [1, 1, 1, 0, 1, 0, 0] Tryd.b13) (kFamM [] m13 st inv μ k (r13_k0 q)) (st13 s frm i false ts)) = (
  ((ByteArray.size s) ≤ LIM) →
  bcase (decide (i < ((ByteArray.size s) : Int))) (
   (((0 : Int) ≤ i) ∧ (i < ((ByteArray.size s) : Int))) ∧
   bcase (((UInt8.toNat (List.getD (Array.toList (ByteArray.data s)) (Int.toNat i) (0 : UInt8))) : Int) == (60 : Int)) (
    bcase (decide (i > frm)) (
     (((0 : Int) ≤ frm) ∧ ((frm ≤ i) ∧ (i ≤ ((ByteArray.size s) : Int)))) ∧
     True ∧
     bcase ((Prod.snd (YtfdecpfcphghlaaDoor.unesc (ByteArray.extract s (Int.toNat frm) (Int.toNat i)))) != (0 : Int)) (
      q (AV.tp [AV.d (D.sl (List.take (List.length ts) ts)), mkI IntKind.i64 (Prod.snd (YtfdecpfcphghlaaDoor.unesc (ByteArray.extract s (Int.toNat frm) (Int.toNat i)))), mkI IntKind.i64 (0 : Int)])) (
      (∀ (c : List D), (c ∈ [[D.v (Value.int IntKind.i64 (3 : Int)), D.v (Value.string (⟨#[]⟩ : ByteArray)), D.sl [], D.v (Value.string (Prod.fst (YtfdecpfcphghlaaDoor.unesc (ByteArray.extract s (Int.toNat frm) (Int.toNat i)))))]]) → (List.length c) = 4) ∧
      ((List.length ts) = (List.length ts)) ∧
      (((List.length ts) + 1) ≤ LIM) ∧
      FamNext st inv μ k ⟨[mkS s, AV.jk, AV.jk, AV.jk, AV.jk, AV.vw (0 : Nat) ((List.length ts) + 1), mkI IntKind.i64 (IntKind.wrap IntKind.i64 (i + (1 : Int))), mkB true, mkI IntKind.i64 (IntKind.wrap IntKind.i64 (i + (1 : Int))), AV.jk, AV.jk, AV.jk, AV.jk, AV.jk, AV.jk, AV.jk, AV.jk, AV.jk, AV.jk, AV.jk, AV.jk, AV.jk, AV.jk, AV.jk, AV.jk, AV.jk, AV.jk, AV.jk, AV.jk, AV.jk, AV.jk, AV.jk, AV.jk, AV.jk, AV.jk, AV.jk, AV.jk, AV.jk, AV.jk, AV.jk, AV.jk, AV.jk, AV.jk, AV.jk, AV.jk, AV.jk, AV.jk, AV.jk, AV.jk, AV.jk, AV.jk, AV.jk, AV.jk, AV.jk, AV.jk, AV.jk, AV.jk, AV.jk, AV.jk, AV.jk, AV.jk, AV.jk, AV.jk, AV.jk, AV.jk, AV.jk, AV.jk, AV.jk, AV.jk, AV.jk, AV.jk, AV.jk, AV.jk, AV.jk, AV.jk, AV.jk, AV.jk, AV.jk, AV.jk, AV.jk, AV.jk, AV.jk, AV.jk, AV.jk, AV.jk, AV.jk, AV.jk, AV.jk, AV.jk, AV.jk, AV.jk, AV.jk], [Ob.row (4 : Nat) (ts ++ [[D.v (Value.int IntKind.i64 (3 : Int)), D.v (Value.string (⟨#[]⟩ : ByteArray)), D.sl [], D.v (Value.string (Prod.fst (YtfdecpfcphghlaaDoor.unesc (ByteArray.extract s (Int.toNat frm) (Int.toNat i)))))]]), Ob.row 4 [[D.v (Value.int IntKind.i64 (3 : Int)), D.v (Value.string (⟨#[]⟩ : ByteArray)), D.sl [], D.v (Value.string (Prod.fst (YtfdecpfcphghlaaDoor.unesc (ByteArray.extract s (Int.toNat frm) (Int.toNat i)))))]]]⟩)) (
     FamNext st inv μ k ⟨[mkS s, AV.jk, AV.jk, AV.jk, AV.jk, AV.vw (0 : Nat) (List.length ts), mkI IntKind.i64 (IntKind.wrap IntKind.i64 (i + (1 : Int))), mkB true, mkI IntKind.i64 (IntKind.wrap IntKind.i64 (i + (1 : Int))), AV.jk, AV.jk, AV.jk, AV.jk, AV.jk, AV.jk, AV.jk, AV.jk, AV.jk, AV.jk, AV.jk, AV.jk, AV.jk, AV.jk, AV.jk, AV.jk, AV.jk, AV.jk, AV.jk, AV.jk, AV.jk, AV.jk, AV.jk, AV.jk, AV.jk, AV.jk, AV.jk, AV.jk, AV.jk, AV.jk, AV.jk, AV.jk, AV.jk, AV.jk, AV.jk, AV.jk, AV.jk, AV.jk, AV.jk, AV.jk, AV.jk, AV.jk, AV.jk, AV.jk, AV.jk, AV.jk, AV.jk, AV.jk, AV.jk, AV.jk, AV.jk, AV.jk, AV.jk, AV.jk, AV.jk, AV.jk, AV.jk, AV.jk, AV.jk, AV.jk, AV.jk, AV.jk, AV.jk, AV.jk, AV.jk, AV.jk, AV.jk, AV.jk, AV.jk, AV.jk, AV.jk, AV.jk, AV.jk, AV.jk, AV.jk, AV.jk, AV.jk, AV.jk, AV.jk, AV.jk, AV.jk, AV.jk, AV.jk], [Ob.row (4 : Nat) ts]⟩)) (
    bcase (decide ((IntKind.wrap IntKind.i64 ((IntKind.wrap IntKind.i64 (i + (1 : Int))) - frm)) > (512 : Int))) (
     q (AV.tp [AV.d (D.sl (List.take (List.length ts) ts)), mkI IntKind.i64 (4 : Int), mkI IntKind.i64 (0 : Int)])) (
     FamNext st inv μ k ⟨[mkS s, AV.jk, AV.jk, AV.jk, AV.jk, AV.vw (0 : Nat) (List.length ts), mkI IntKind.i64 frm, mkB false, mkI IntKind.i64 (IntKind.wrap IntKind.i64 (i + (1 : Int))), AV.jk, AV.jk, AV.jk, AV.jk, AV.jk, AV.jk, AV.jk, AV.jk, AV.jk, AV.jk, AV.jk, AV.jk, AV.jk, AV.jk, AV.jk, AV.jk, AV.jk, AV.jk, AV.jk, AV.jk, AV.jk, AV.jk, AV.jk, AV.jk, AV.jk, AV.jk, AV.jk, AV.jk, AV.jk, AV.jk, AV.jk, AV.jk, AV.jk, AV.jk, AV.jk, AV.jk, AV.jk, AV.jk, AV.jk, AV.jk, AV.jk, AV.jk, AV.jk, AV.jk, AV.jk, AV.jk, AV.jk, AV.jk, AV.jk, AV.jk, AV.jk, AV.jk, AV.jk, AV.jk, AV.jk, AV.jk, AV.jk, AV.jk, AV.jk, AV.jk, AV.jk, AV.jk, AV.jk, AV.jk, AV.jk, AV.jk, AV.jk, AV.jk, AV.jk, AV.jk, AV.jk, AV.jk, AV.jk, AV.jk, AV.jk, AV.jk, AV.jk, AV.jk, AV.jk, AV.jk, AV.jk, AV.jk, AV.jk], [Ob.row (4 : Nat) ts]⟩))) (
   ((ByteArray.size s) ≤ LIM) →
   q (AV.tp [AV.d (D.sl (List.take (List.length ts) ts)), mkI IntKind.i64 (0 : Int), mkI IntKind.i64 (IntKind.wrap IntKind.i64 (((ByteArray.size s) : Int) - frm))]))) := by kernel_rfl

theorem r13_bt {ι : Type} (st : ι → S) (inv : ι → Prop) (μ : ι → Nat) (k : ι) (s : ByteArray) (frm i : Int) (ts : List (List D)) (q : AV → Prop) :
  (aCode Tryd.K G13 (cAt [1, 1, 1, 0, 1, 0, 0] Tryd.b13) (kFamM [] m13 st inv μ k (r13_k0 q)) (st13 s frm i true ts)) = (
  ((ByteArray.size s) ≤ LIM) →
  bcase (decide (i < ((ByteArray.size s) : Int))) (
   (((0 : Int) ≤ i) ∧ (i < ((ByteArray.size s) : Int))) ∧
   bcase (((UInt8.toNat (List.getD (Array.toList (ByteArray.data s)) (Int.toNat i) (0 : UInt8))) : Int) == (60 : Int)) (
    q (AV.tp [AV.d (D.sl (List.take (List.length ts) ts)), mkI IntKind.i64 (3 : Int), mkI IntKind.i64 (0 : Int)])) (
    (((0 : Int) ≤ i) ∧ (i < ((ByteArray.size s) : Int))) ∧
    bcase (((UInt8.toNat (List.getD (Array.toList (ByteArray.data s)) (Int.toNat i) (0 : UInt8))) : Int) == (62 : Int)) (
     (((0 : Int) ≤ frm) ∧ ((frm ≤ i) ∧ (i ≤ ((ByteArray.size s) : Int)))) ∧
     True ∧
     bcase ((Prod.snd (YtfdecpfcphghlaaDoor.tagR (ByteArray.extract s (Int.toNat frm) (Int.toNat i)))) != (0 : Int)) (
      q (AV.tp [AV.d (D.sl (List.take (List.length ts) ts)), mkI IntKind.i64 (Prod.snd (YtfdecpfcphghlaaDoor.tagR (ByteArray.extract s (Int.toNat frm) (Int.toNat i)))), mkI IntKind.i64 (0 : Int)])) (
      (∀ (c : List D), (c ∈ (YtfdecpfcphghlaaDoor.toksD (Prod.fst (YtfdecpfcphghlaaDoor.tagR (ByteArray.extract s (Int.toNat frm) (Int.toNat i)))))) → (List.length c) = 4) ∧
      ((List.length ts) = (List.length ts)) ∧
      (((List.length ts) + (List.length (YtfdecpfcphghlaaDoor.toksD (Prod.fst (YtfdecpfcphghlaaDoor.tagR (ByteArray.extract s (Int.toNat frm) (Int.toNat i))))))) ≤ LIM) ∧
      FamNext st inv μ k ⟨[mkS s, AV.jk, AV.jk, AV.jk, AV.jk, AV.vw (0 : Nat) ((List.length ts) + (List.length (YtfdecpfcphghlaaDoor.toksD (Prod.fst (YtfdecpfcphghlaaDoor.tagR (ByteArray.extract s (Int.toNat frm) (Int.toNat i))))))), mkI IntKind.i64 (IntKind.wrap IntKind.i64 (i + (1 : Int))), mkB false, mkI IntKind.i64 (IntKind.wrap IntKind.i64 (i + (1 : Int))), AV.jk, AV.jk, AV.jk, AV.jk, AV.jk, AV.jk, AV.jk, AV.jk, AV.jk, AV.jk, AV.jk, AV.jk, AV.jk, AV.jk, AV.jk, AV.jk, AV.jk, AV.jk, AV.jk, AV.jk, AV.jk, AV.jk, AV.jk, AV.jk, AV.jk, AV.jk, AV.jk, AV.jk, AV.jk, AV.jk, AV.jk, AV.jk, AV.jk, AV.jk, AV.jk, AV.jk, AV.jk, AV.jk, AV.jk, AV.jk, AV.jk, AV.jk, AV.jk, AV.jk, AV.jk, AV.jk, AV.jk, AV.jk, AV.jk, AV.jk, AV.jk, AV.jk, AV.jk, AV.jk, AV.jk, AV.jk, AV.jk, AV.jk, AV.jk, AV.jk, AV.jk, AV.jk, AV.jk, AV.jk, AV.jk, AV.jk, AV.jk, AV.jk, AV.jk, AV.jk, AV.jk, AV.jk, AV.jk, AV.jk, AV.jk, AV.jk, AV.jk, AV.jk, AV.jk, AV.jk, AV.jk, AV.jk, AV.jk], [Ob.row (4 : Nat) (ts ++ (YtfdecpfcphghlaaDoor.toksD (Prod.fst (YtfdecpfcphghlaaDoor.tagR (ByteArray.extract s (Int.toNat frm) (Int.toNat i))))))]⟩)) (
     bcase (decide ((IntKind.wrap IntKind.i64 ((IntKind.wrap IntKind.i64 (i + (1 : Int))) - frm)) > (512 : Int))) (
      q (AV.tp [AV.d (D.sl (List.take (List.length ts) ts)), mkI IntKind.i64 (4 : Int), mkI IntKind.i64 (0 : Int)])) (
      FamNext st inv μ k ⟨[mkS s, AV.jk, AV.jk, AV.jk, AV.jk, AV.vw (0 : Nat) (List.length ts), mkI IntKind.i64 frm, mkB true, mkI IntKind.i64 (IntKind.wrap IntKind.i64 (i + (1 : Int))), AV.jk, AV.jk, AV.jk, AV.jk, AV.jk, AV.jk, AV.jk, AV.jk, AV.jk, AV.jk, AV.jk, AV.jk, AV.jk, AV.jk, AV.jk, AV.jk, AV.jk, AV.jk, AV.jk, AV.jk, AV.jk, AV.jk, AV.jk, AV.jk, AV.jk, AV.jk, AV.jk, AV.jk, AV.jk, AV.jk, AV.jk, AV.jk, AV.jk, AV.jk, AV.jk, AV.jk, AV.jk, AV.jk, AV.jk, AV.jk, AV.jk, AV.jk, AV.jk, AV.jk, AV.jk, AV.jk, AV.jk, AV.jk, AV.jk, AV.jk, AV.jk, AV.jk, AV.jk, AV.jk, AV.jk, AV.jk, AV.jk, AV.jk, AV.jk, AV.jk, AV.jk, AV.jk, AV.jk, AV.jk, AV.jk, AV.jk, AV.jk, AV.jk, AV.jk, AV.jk, AV.jk, AV.jk, AV.jk, AV.jk, AV.jk, AV.jk, AV.jk, AV.jk, AV.jk, AV.jk, AV.jk, AV.jk, AV.jk], [Ob.row (4 : Nat) ts]⟩)))) (
   ((ByteArray.size s) ≤ LIM) →
   q (AV.tp [AV.d (D.sl (List.take (List.length ts) ts)), mkI IntKind.i64 (0 : Int), mkI IntKind.i64 (IntKind.wrap IntKind.i64 (((ByteArray.size s) : Int) - frm))]))) := by kernel_rfl

theorem feed_step (c : UInt8) (l : List UInt8) (b : ByteArray) (w : Bool) : feedL (c :: l) b w 0 = ((nextT b w c).1 ++ (feedL l (nextT b w c).2.2.1 (nextT b w c).2.2.2 (nextT b w c).2.1).1, (feedL l (nextT b w c).2.2.1 (nextT b w c).2.2.2 (nextT b w c).2.1).2) := by
  rw [feedL, if_neg (by simp)]
theorem beginL_bad (name : ByteArray) : ∀ (f : Nat) (s : ByteArray) (l : List (ByteArray × ByteArray)), (beginL name f s l).2 ≠ 0 → (beginL name f s l).1 = []
  | 0, _, _, _ => rfl
  | f + 1, s, l, h => by
    unfold beginL at h ⊢
    repeat' split
    all_goals first
      | rfl
      | skip
    all_goals simp_all
    exact beginL_bad name f _ _ h
theorem tagT_bad (s : ByteArray) (h : (tagT s).2 ≠ 0) : (tagT s).1 = [] := by
  unfold tagT at h ⊢
  split
  · rename_i h1
    rw [if_pos h1] at h
    split
    · rename_i h2
      rw [if_pos h2] at h
      unfold endT at h ⊢
      split
      · rename_i h3; rw [if_pos h3] at h; exact absurd rfl h
      · rfl
    · rename_i h2
      rw [if_neg h2] at h
      unfold beginT at h ⊢
      split
      · rename_i h3; rw [if_pos h3] at h; exact beginL_bad _ _ _ _ h
      · rfl
  · rfl
theorem push_ext {s : ByteArray} {a i : Nat} (h1 : a ≤ i) (h2 : i < s.size) : (s.extract a i).push (s.data.toList.getD i 0) = s.extract a (i + 1) := by
  refine ba_ext ?_
  have hlt : i < s.data.toList.length := by rw [dl]; exact h2
  have e : ∀ (b : ByteArray) (c : UInt8), (b.push c).data.toList = b.data.toList ++ [c] := fun b c => by
    show (b.data.push c).toList = _; simp
  rw [e, ext_list, ext_list, List.take_add_one, List.getElem?_eq_getElem hlt, List.drop_append_of_le_length (by rw [List.length_take]; omega), List.getD_eq_getElem?_getD, List.getElem?_eq_getElem hlt]
  rfl
theorem ext_nil (s : ByteArray) (a : Nat) : s.extract a a = ⟨#[]⟩ := bytes_nil (by rw [ByteArray.size_extract]; omega)

def F13 : List AV → Option (Prop × AV) := fun al => match al with
  | [.d (.v (.string s))] => some (s.size ≤ 3000, .tp [.d (.sl (toksD (feedL s.data.toList ⟨#[]⟩ false 0).1)), mkI .i64 (feedL s.data.toList ⟨#[]⟩ false 0).2.2.2, mkI .i64 (heldI (feedL s.data.toList ⟨#[]⟩ false 0).2.1 (feedL s.data.toList ⟨#[]⟩ false 0).2.2.2)])
  | _ => none
theorem c13 : PSound Tryd.prog 13 (detE F13) := by
  refine det_fn (c := Tryd.b13) mixed Tryd.K_ok (gsound_det c18 (gsound_det c19 gsound_nil)) Tryd.func13 rfl rfl Tryd.call13 fun al p r q hF hp hq => ?_
  unfold F13 at hF; split at hF <;> cases hF
  rename_i s
  have h3000 : s.size ≤ 3000 := hp
  obtain ⟨R, hR⟩ : ∃ R, feedL s.data.toList ⟨#[]⟩ false 0 = R := ⟨_, rfl⟩
  rw [hR] at hq
  -- an error: what is there is told
  have hErr : ∀ (ts : List Tok) (b : ByteArray) (w : Bool) (e : Int), e ≠ 0 → (ts, b, w, e) = R → q (.tp [.d (.sl (toksD ts)), mkI .i64 e, mkI .i64 0]) := fun ts b w e he h => by
    subst h
    unfold heldI at hq
    simp only at hq
    rw [if_neg he] at hq; exact hq
  have hEnd : ∀ (ts : List Tok) (b : ByteArray) (w : Bool), (ts, b, w, 0) = R → q (.tp [.d (.sl (toksD ts)), mkI .i64 0, mkI .i64 b.size]) := fun ts b w h => by
    subst h
    exact hq
  clear hq
  refine cast (r13 s q).symm (.openT 5 4 (by omega) ?_)
  refine ALoop.introM [] m13 (fun x : Nat × Nat × Bool × List Tok => st13 s x.2.1 x.1 x.2.2.1 (toksD x.2.2.2)) (fun x => x.2.1 ≤ x.1 ∧ x.1 ≤ s.size ∧ x.1 - x.2.1 ≤ 512 ∧ x.2.2.2.length ≤ 2 * x.1 ∧ (x.2.2.2 ++ (feedL (s.data.toList.drop x.1) (s.extract x.2.1 x.1) x.2.2.1 0).1, (feedL (s.data.toList.drop x.1) (s.extract x.2.1 x.1) x.2.2.1 0).2) = R) (fun x => s.size - x.1)
    ⟨[], (0, 0, false, []), by simp [S.openT, S.le, sealAll, leL, leO, jks, st13, toksD], Nat.zero_le _, Nat.zero_le _, by decide, Nat.zero_le _, by rw [ext_nil]; exact hR⟩ fun x ⟨hx1, hx2, hx3, hx4, hx5⟩ => ?_
  obtain ⟨i, frm, tag, ts⟩ := x
  simp only at hx1 hx2 hx3 hx4 hx5
  have htk : List.take (toksD ts).length (toksD ts) = toksD ts := List.take_of_length_le (Nat.le_refl _)
  have hbz : (s.extract frm i).size = i - frm := by rw [ByteArray.size_extract]; omega
  have hlen := toksD_len ts
  -- the end
  have fin : i = s.size → q (.tp [.d (.sl (toksD ts)), mkI .i64 0, mkI .i64 (IntKind.i64.wrap ((s.size : Int) - (frm : Int)))]) := fun h => by
    rw [List.drop_eq_nil_of_le (by rw [dl]; omega)] at hx5
    have := hEnd ts (s.extract frm i) tag (by rw [← hx5]; simp [feedL])
    rw [hbz] at this
    rw [IntWalk.i64_in _ (by omega), show (s.size : Int) - (frm : Int) = ((i - frm : Nat) : Int) by omega]
    exact this
  by_cases hlt : i < s.size
  · have hw : IntKind.i64.wrap ((i : Int) + 1) = ((i + 1 : Nat) : Int) := wrap_succ hlt (Nat.le_trans h3000 (by decide))
    have hw2 : IntKind.i64.wrap (((i + 1 : Nat) : Int) - (frm : Int)) = ((i + 1 - frm : Nat) : Int) := by rw [IntWalk.i64_in _ (by omega)]; omega
    have hi0 : (0 : Int) ≤ (i : Int) ∧ (i : Int) < (s.size : Int) := ⟨by omega, by omega⟩
    rw [drop_one hlt, feed_step] at hx5
    have hc := byteAt_eq s i
    unfold byteAt at hc
    have hpush := push_ext hx1 hlt
    have hT := tagT_ref (s.extract frm i)
    have hTb := tagT_bad (s.extract frm i)
    have hTl := tagT_len (s.extract frm i)
    have hnil := ext_nil s (i + 1)
    -- held
    have held : ∀ w : Bool, tag = w → ¬ s.data.toList.getD i 0 = 60 → ¬ (s.data.toList.getD i 0 = 62 ∧ w = true) → bcase (decide (IntKind.i64.wrap (((i + 1 : Nat) : Int) - (frm : Int)) > 512)) (q (.tp [.d (.sl (toksD ts)), mkI .i64 4, mkI .i64 0]))
        (FamNext (fun x : Nat × Nat × Bool × List Tok => st13 s x.2.1 x.1 x.2.2.1 (toksD x.2.2.2)) (fun x => x.2.1 ≤ x.1 ∧ x.1 ≤ s.size ∧ x.1 - x.2.1 ≤ 512 ∧ x.2.2.2.length ≤ 2 * x.1 ∧ (x.2.2.2 ++ (feedL (s.data.toList.drop x.1) (s.extract x.2.1 x.1) x.2.2.1 0).1, (feedL (s.data.toList.drop x.1) (s.extract x.2.1 x.1) x.2.2.1 0).2) = R) (fun x => s.size - x.1) (i, frm, tag, ts)
          ⟨[mkS s, .jk, .jk, .jk, .jk, .vw 0 (toksD ts).length, mkI .i64 frm, mkB w, mkI .i64 ((i + 1 : Nat) : Int)] ++ jks 83, [.row 4 (toksD ts)]⟩) := by
      intro w hw' h60 h62
      subst hw'
      have hn : nextT (s.extract frm i) tag (s.data.toList.getD i 0) = if (s.extract frm i).size = 512 then ([], 4, s.extract frm i, tag) else ([], 0, (s.extract frm i).push (s.data.toList.getD i 0), tag) := by
        unfold nextT; rw [if_neg h60, if_neg h62]
      rw [hn, hbz, hpush] at hx5
      rw [hw2]
      refine bcase_dec (fun h => ?_) (fun h => ?_)
      · rw [if_pos (show i - frm = 512 by omega)] at hx5
        simp only [feedL_err _ _ _ _ (show (4 : Int) ≠ 0 by decide), List.append_nil, List.nil_append] at hx5
        exact hErr ts _ _ 4 (by decide) hx5
      · rw [if_neg (show ¬ i - frm = 512 by omega)] at hx5
        simp only [List.nil_append] at hx5
        refine .mk [] (i + 1, frm, tag, ts) (by simp [S.le, sealAll, leL, leO, jks, st13, S.fits, fitsL, AV.fits, Ob.fits]) ⟨?_, ?_, ?_, ?_, hx5⟩ (show s.size - (i + 1) < s.size - i by omega)
        all_goals simp only
        all_goals omega
    cases tag with
    | false =>
      refine cast (r13_bf _ _ _ _ s frm i (toksD ts) q).symm fun hlim => bcaseT (decide_eq_true (by omega)) ⟨hi0, ?_⟩
      rw [htk]
      simp only [Int.toNat_natCast, hw]
      refine bcase_mk (fun h6 => ?_) (fun h6 => ?_)
      · have h6 : s.data.toList.getD i 0 = 60 := (hc 60).1 (beq_iff_eq.1 h6)
        have hn : nextT (s.extract frm i) false (s.data.toList.getD i 0) = ((textT (s.extract frm i)).1, (textT (s.extract frm i)).2, ⟨#[]⟩, true) := by
          unfold nextT; rw [if_pos h6, if_neg (by simp)]
        rw [hn, ← hnil] at hx5
        clear hn held hT hTb hTl
        refine bcase_dec (fun h => ?_) (fun h => ?_)
        · have hne : ¬ s.extract frm i = ⟨#[]⟩ := fun e => by rw [e] at hbz; have : (⟨#[]⟩ : ByteArray).size = 0 := rfl; omega
          unfold textT at hx5
          rw [if_neg hne] at hx5
          refine ⟨⟨by omega, by omega, by omega⟩, trivial, bcase_mk (fun h7 => ?_) (fun h7 => ?_)⟩
          · have h7 : ¬ (unesc (s.extract frm i)).2 = 0 := by simpa using h7
            rw [if_neg h7] at hx5
            simp only [feedL_err _ _ _ _ h7, List.append_nil, List.nil_append] at hx5
            exact hErr ts _ _ _ h7 hx5
          · have h7 : (unesc (s.extract frm i)).2 = 0 := by simpa using h7
            rw [if_pos h7] at hx5
            refine ⟨by simp, by first | trivial | rfl, by rw [hlen]; unfold LIM; omega, ?_⟩
            have et : toksD ts ++ [[D.v (.int .i64 3), D.v (.string ⟨#[]⟩), D.sl [], D.v (.string (unesc (s.extract frm i)).1)]] = toksD (ts ++ [⟨3, ⟨#[]⟩, [], (unesc (s.extract frm i)).1⟩]) := by
              rw [← toksD_app]; rfl
            rw [et]
            refine .mk [] (i + 1, i + 1, true, ts ++ [⟨3, ⟨#[]⟩, [], (unesc (s.extract frm i)).1⟩]) (by simp [S.le, sealAll, leL, leO, jks, st13, S.fits, fitsL, AV.fits, Ob.fits, toksD_len]) ⟨?_, ?_, ?_, ?_, ?_⟩ (show s.size - (i + 1) < s.size - i by omega)
            all_goals simp only
            · omega
            · omega
            · omega
            · rw [List.length_append]; simp; omega
            · simp only at hx5
              rw [List.append_assoc]; exact hx5
        · have hee : s.extract frm i = ⟨#[]⟩ := bytes_nil (by omega)
          have ht0 : textT (s.extract frm i) = ([], 0) := by unfold textT; rw [if_pos hee]
          rw [ht0] at hx5
          simp only [List.nil_append] at hx5
          refine .mk [] (i + 1, i + 1, true, ts) (by simp [S.le, sealAll, leL, leO, jks, st13, S.fits, fitsL, AV.fits, Ob.fits]) ⟨?_, ?_, ?_, ?_, hx5⟩ (show s.size - (i + 1) < s.size - i by omega)
          all_goals simp only
          all_goals omega
      · have h6 : ¬ s.data.toList.getD i 0 = 60 := fun e => beq_eq_false_iff_ne.1 h6 ((hc 60).2 e)
        exact held false rfl h6 (by simp)
    | true =>
      refine cast (r13_bt _ _ _ _ s frm i (toksD ts) q).symm fun hlim => bcaseT (decide_eq_true (by omega)) ⟨hi0, ?_⟩
      rw [htk]
      simp only [Int.toNat_natCast, hw]
      refine bcase_mk (fun h6 => ?_) (fun h6 => ⟨hi0, bcase_mk (fun h2 => ⟨⟨by omega, by omega, by omega⟩, trivial, ?_⟩) (fun h2 => ?_)⟩)
      · have h6 : s.data.toList.getD i 0 = 60 := (hc 60).1 (beq_iff_eq.1 h6)
        have hn : nextT (s.extract frm i) true (s.data.toList.getD i 0) = ([], 3, s.extract frm i, true) := by
          unfold nextT; rw [if_pos h6, if_pos rfl]
        rw [hn] at hx5
        simp only [feedL_err _ _ _ _ (show (3 : Int) ≠ 0 by decide), List.append_nil, List.nil_append] at hx5
        exact hErr ts _ _ 3 (by decide) hx5
      · have h6 : ¬ s.data.toList.getD i 0 = 60 := fun e => beq_eq_false_iff_ne.1 h6 ((hc 60).2 e)
        have h2 : s.data.toList.getD i 0 = 62 := (hc 62).1 (beq_iff_eq.1 h2)
        have hn : nextT (s.extract frm i) true (s.data.toList.getD i 0) = ((tagT (s.extract frm i)).1, (tagT (s.extract frm i)).2, ⟨#[]⟩, false) := by
          unfold nextT; rw [if_neg h6, if_pos ⟨h2, rfl⟩]
        rw [hn, ← hnil] at hx5
        rw [← hT]
        refine bcase_mk (fun h7 => ?_) (fun h7 => ?_)
        · have h7 : ¬ (tagT (s.extract frm i)).2 = 0 := by simpa using h7
          rw [hTb h7] at hx5
          simp only [feedL_err _ _ _ _ h7, List.append_nil, List.nil_append] at hx5
          exact hErr ts _ _ _ h7 hx5
        · have h7 : (tagT (s.extract frm i)).2 = 0 := by simpa using h7
          rw [h7] at hx5
          refine ⟨toksD_sz _, by first | trivial | rfl, by rw [hlen, toksD_len]; unfold LIM; omega, ?_⟩
          rw [toksD_app, toksD_len, toksD_len]
          refine .mk [] (i + 1, i + 1, false, ts ++ (tagT (s.extract frm i)).1) (by simp [S.le, sealAll, leL, leO, jks, st13, S.fits, fitsL, AV.fits, Ob.fits, toksD_len]) ⟨?_, ?_, ?_, ?_, ?_⟩ (show s.size - (i + 1) < s.size - i by omega)
          all_goals simp only
          · omega
          · omega
          · omega
          · rw [List.length_append]; omega
          · simp only at hx5
            rw [List.append_assoc]; exact hx5
      · have h6 : ¬ s.data.toList.getD i 0 = 60 := fun e => beq_eq_false_iff_ne.1 h6 ((hc 60).2 e)
        exact held true rfl h6 (fun h => beq_eq_false_iff_ne.1 h2 ((hc 62).2 h.1))
  · have hie : i = s.size := by omega
    cases tag with
    | false =>
      refine cast (r13_bf _ _ _ _ s frm i (toksD ts) q).symm fun hlim => bcaseF (decide_eq_false (by omega)) fun _ => ?_
      rw [htk]; exact fin hie
    | true =>
      refine cast (r13_bt _ _ _ _ s frm i (toksD ts) q).symm fun hlim => bcaseF (decide_eq_false (by omega)) fun _ => ?_
      rw [htk]; exact fin hie

-- TagsRead
noncomputable abbrev GR : List (FuncId × En) := (13, .det F13) :: GL
theorem r3 (s : ByteArray) (q : AV → Prop) :
  (aCode Tryd.K GR Tryd.b3 (kRet Tryd.K Tryd.f3.results.toList q) ⟨[mkS s] ++ List.replicate (Tryd.f3.ntmps - 1) .jk, []⟩) = (
  True ∧
  True ∧
  (([] : List AV) = []) ∧ (
   ∃ (b : ByteArray),
   ∃ (w : Bool),
   ∃ (e : Int),
   ([Ob.box [AV.vw ((0 : Nat) + (1 : Nat)) (0 : Nat), mkB false, mkI IntKind.i64 (0 : Int)], Ob.row (1 : Nat) [], Ob.gh [AV.rf (0 : Nat) (0 : Nat)]] = [Ob.box [AV.vw (1 : Nat) (List.length (bytesD b)), mkB w, mkI IntKind.i64 e], Ob.row (1 : Nat) (bytesD b), Ob.gh [AV.rf (0 : Nat) (0 : Nat)]]) ∧
   ((ByteArray.size b) ≤ (512 : Nat)) ∧
   ((ByteArray.size (YtfdecpfcphghlaaDoor.earlyB s)) ≤ (1000000000 : Nat)) ∧
   ((Option.some (Ob.gh [AV.rf (0 : Nat) (0 : Nat)])) = (Option.some (Ob.gh [AV.rf (0 : Nat) (0 : Nat)]))) ∧
   ((ByteArray.size (YtfdecpfcphghlaaDoor.earlyB s)) ≤ (3000 : Nat)) ∧ (
    ∃ (b_1 : ByteArray),
    ∃ (w_1 : Bool),
    ∃ (e_1 : Int),
    ([Ob.box [AV.vw ((0 : Nat) + (1 : Nat)) (List.length (bytesD (Prod.fst (Prod.snd (YtfdecpfcphghlaaDoor.feedL (Array.toList (ByteArray.data (YtfdecpfcphghlaaDoor.earlyB s))) b w e))))), mkB (Prod.fst (Prod.snd (Prod.snd (YtfdecpfcphghlaaDoor.feedL (Array.toList (ByteArray.data (YtfdecpfcphghlaaDoor.earlyB s))) b w e)))), mkI IntKind.i64 (Prod.snd (Prod.snd (Prod.snd (YtfdecpfcphghlaaDoor.feedL (Array.toList (ByteArray.data (YtfdecpfcphghlaaDoor.earlyB s))) b w e))))], Ob.row (1 : Nat) (bytesD (Prod.fst (Prod.snd (YtfdecpfcphghlaaDoor.feedL (Array.toList (ByteArray.data (YtfdecpfcphghlaaDoor.earlyB s))) b w e)))), Ob.gh [AV.rf (0 : Nat) (0 : Nat)]] = [Ob.box [AV.vw (1 : Nat) (List.length (bytesD b_1)), mkB w_1, mkI IntKind.i64 e_1], Ob.row (1 : Nat) (bytesD b_1), Ob.gh [AV.rf (0 : Nat) (0 : Nat)]]) ∧
    ((ByteArray.size b_1) ≤ (512 : Nat)) ∧
    ((ByteArray.size (⟨#[]⟩ : ByteArray)) ≤ (1000000000 : Nat)) ∧
    ((Option.some (Ob.gh [AV.rf (0 : Nat) (0 : Nat)])) = (Option.some (Ob.gh [AV.rf (0 : Nat) (0 : Nat)]))) ∧
    ((YtfdecpfcphghlaaDoor.toksD (Prod.fst (YtfdecpfcphghlaaDoor.feedL (Array.toList (ByteArray.data (YtfdecpfcphghlaaDoor.earlyB s))) b w e))) = (YtfdecpfcphghlaaDoor.toksD (YtfdecpfcphghlaaDoor.unToks (YtfdecpfcphghlaaDoor.toksD (Prod.fst (YtfdecpfcphghlaaDoor.feedL (Array.toList (ByteArray.data (YtfdecpfcphghlaaDoor.earlyB s))) b w e)))))) ∧
    (((YtfdecpfcphghlaaDoor.toksD (Prod.fst (YtfdecpfcphghlaaDoor.feedL (Array.toList (ByteArray.data (YtfdecpfcphghlaaDoor.earlyB s))) b w e))) = (YtfdecpfcphghlaaDoor.toksD (YtfdecpfcphghlaaDoor.unToks (YtfdecpfcphghlaaDoor.toksD (Prod.fst (YtfdecpfcphghlaaDoor.feedL (Array.toList (ByteArray.data (YtfdecpfcphghlaaDoor.earlyB s))) b w e)))))) ∧ ((YtfdecpfcphghlaaDoor.toksD (Prod.fst (YtfdecpfcphghlaaDoor.feedL (Array.toList (ByteArray.data (YtfdecpfcphghlaaDoor.earlyB s))) (⟨#[]⟩ : ByteArray) false (0 : Int)))) = (YtfdecpfcphghlaaDoor.toksD (YtfdecpfcphghlaaDoor.unToks (YtfdecpfcphghlaaDoor.toksD (Prod.fst (YtfdecpfcphghlaaDoor.feedL (Array.toList (ByteArray.data (YtfdecpfcphghlaaDoor.earlyB s))) (⟨#[]⟩ : ByteArray) false (0 : Int)))))))) ∧
    bcase (decide ((YtfdecpfcphghlaaDoor.unToks (YtfdecpfcphghlaaDoor.toksD (Prod.fst (YtfdecpfcphghlaaDoor.feedL (Array.toList (ByteArray.data (YtfdecpfcphghlaaDoor.earlyB s))) b w e)))) = (YtfdecpfcphghlaaDoor.unToks (YtfdecpfcphghlaaDoor.toksD (Prod.fst (YtfdecpfcphghlaaDoor.feedL (Array.toList (ByteArray.data (YtfdecpfcphghlaaDoor.earlyB s))) (⟨#[]⟩ : ByteArray) false (0 : Int))))))) (
     bcase ((Prod.snd (Prod.snd (Prod.snd (YtfdecpfcphghlaaDoor.feedL (Array.toList (ByteArray.data (YtfdecpfcphghlaaDoor.earlyB s))) b w e)))) == (Prod.snd (Prod.snd (Prod.snd (YtfdecpfcphghlaaDoor.feedL (Array.toList (ByteArray.data (YtfdecpfcphghlaaDoor.earlyB s))) (⟨#[]⟩ : ByteArray) false (0 : Int)))))) (
      ∃ (b_2 : ByteArray),
      ∃ (w_2 : Bool),
      ∃ (e_2 : Int),
      ([Ob.box [AV.vw ((0 : Nat) + (1 : Nat)) (List.length (bytesD (Prod.fst (b_1, (w_1, e_1))))), mkB (Prod.fst (w_1, e_1)), mkI IntKind.i64 (Prod.snd (w_1, e_1))], Ob.row (1 : Nat) (bytesD (Prod.fst (b_1, (w_1, e_1)))), Ob.gh [AV.rf (0 : Nat) (0 : Nat)]] = [Ob.box [AV.vw (1 : Nat) (List.length (bytesD b_2)), mkB w_2, mkI IntKind.i64 e_2], Ob.row (1 : Nat) (bytesD b_2), Ob.gh [AV.rf (0 : Nat) (0 : Nat)]]) ∧
      ((Option.some (Ob.gh [AV.rf (0 : Nat) (0 : Nat)])) = (Option.some (Ob.gh [AV.rf (0 : Nat) (0 : Nat)]))) ∧
      bcase ((YtfdecpfcphghlaaDoor.heldI b_2 e_2) == (YtfdecpfcphghlaaDoor.heldI (Prod.fst (Prod.snd (YtfdecpfcphghlaaDoor.feedL (Array.toList (ByteArray.data (YtfdecpfcphghlaaDoor.earlyB s))) (⟨#[]⟩ : ByteArray) false (0 : Int)))) (Prod.snd (Prod.snd (Prod.snd (YtfdecpfcphghlaaDoor.feedL (Array.toList (ByteArray.data (YtfdecpfcphghlaaDoor.earlyB s))) (⟨#[]⟩ : ByteArray) false (0 : Int))))))) (
       (0 ≤ LIM) →
       q (mkB ((Prod.snd (w_1, e_1)) == (Prod.snd (Prod.snd (Prod.snd (YtfdecpfcphghlaaDoor.feedL (Array.toList (ByteArray.data (YtfdecpfcphghlaaDoor.earlyB s))) b w e))))))) (
       q (mkB false))) (
      q (mkB false))) (
     q (mkB false))))) := by kernel_rfl

def F3 : List AV → Option (Prop × AV) := fun al => match al with
  | [.d (.v (.string s))] => some (True, mkB true)
  | _ => none
set_option maxRecDepth 8000 in
theorem c3 : PSound Tryd.prog 3 (detE F3) := by
  refine det_fn (c := Tryd.b3) mixed Tryd.K_ok (gsound_det c13 gL) Tryd.func3 rfl rfl Tryd.call3 fun al p r q hF hp hq => ?_
  unfold F3 at hF; split at hF <;> cases hF
  rename_i s
  refine cast (r3 s q).symm ?_
  have sA := earlyB_size s
  have eA := early_ok s
  generalize earlyB s = A at *
  refine ⟨trivial, trivial, rfl, ⟨#[]⟩, false, 0, rfl, by decide, eA, rfl, sA, ?_⟩
  have hs := feedL_size A.data.toList ⟨#[]⟩ false 0 (by decide)
  generalize feedL A.data.toList ⟨#[]⟩ false 0 = X at *
  obtain ⟨ts, b, w, e⟩ := X
  refine ⟨b, w, e, rfl, hs, by decide, rfl, by rw [unToks_toksD], by rw [unToks_toksD]; exact ⟨rfl, rfl⟩, bcaseT (by simp) (bcaseT (by simp) ⟨b, w, e, rfl, rfl, bcaseT (by simp) fun _ => ?_⟩)⟩
  rw [beq_self_eq_true]; exact hq
set_option maxRecDepth 8000 in
theorem h3 : ∀ as', TyArgs Tryd.prog Tryd.f3.params.toList as' → ∃ p, F3 as' = some (p, mkB true) ∧ p := by
  intro as' h
  rw [Tryd.params3] at h
  match as', h with
  | [a], ⟨ha, _⟩ =>
    obtain ⟨x, rfl, _⟩ := arg_str Tryd.underlying9 ha
    exact ⟨_, rfl, trivial⟩

end Go.Proofs.YtfdecpfcphghlaaDoor
