import Derived.Test.YtchpfeblinnoiaaGreatDoorTagsAttr
import Derived.Laws.Runes
import Derived.Laws.RangeAny
import Derived.Lib.TrimUEq
set_option linter.unusedSimpArgs false
set_option linter.unusedVariables false
namespace Go.Proofs.YtchpfeblinnoiaaGreatDoor
open Go Go.AM Go.RowKit
noncomputable abbrev G32 : List (FuncId × En) := [(96, .det F45), (56, .det F46)]
theorem r32 (s : ByteArray) (q : AV → Prop) :
  (aCode Tryz.K G32 Tryz.b82 (kRet Tryz.K Tryz.f82.results.toList q) ⟨[mkS s] ++ List.replicate (Tryz.f82.ntmps - 1) .jk, []⟩) = (
  (sBlanks = sBlanks) ∧
  ((ByteArray.size (trimRB s)) ≤ LIM) ∧
  bcase (!(nameB (trimRB s))) (
   q (AV.tp [AV.d (.sl []), mkI .i64 3])) (
   q (AV.tp [AV.d (.sl [[D.v (.int IntKind.i64 (2 : Int)), D.v (.string (trimRB s)), D.sl [], D.v (.string ⟨#[]⟩)]]), mkI .i64 0]))) := by kernel_rfl
def endT (s : ByteArray) : List Tok × Int := if nameB (trimRB s) = true then ([⟨2, trimRB s, [], ⟨#[]⟩⟩], 0) else ([], 3)
def F32 : List AV → Option (Prop × AV) := fun al => match al with
  | [.d (.v (.string s))] => some (s.size ≤ LIM, .tp [.d (.sl (toksD (endT s).1)), mkI .i64 (endT s).2])
  | _ => none
theorem c32 : PSound Tryz.prog 82 (detE F32) := by
  refine det_fn (c := Tryz.b82) mixed Tryz.K_ok (gsound_det c45 (gsound_det c46 gsound_nil)) Tryz.func82 rfl rfl Tryz.call82 fun al p r q hF hp hq => ?_
  unfold F32 at hF; split at hF <;> cases hF
  rename_i s
  refine cast (r32 _ q).symm ?_
  unfold endT at hq
  refine ⟨rfl, Nat.le_trans (trimRB_size s) hp, bcase_mk (fun h => ?_) (fun h => ?_)⟩
  · rw [if_neg (by simpa using h)] at hq; exact hq
  · rw [if_pos (by simpa using h)] at hq; exact hq
noncomputable abbrev G49 : List (FuncId × En) := [(93, .det F53), (56, .det F46), (115, .det F67)]
theorem r49 (s : ByteArray) (q : AV → Prop) :
  (aCode Tryz.K G49 Tryz.b99 (kRet Tryz.K Tryz.f99.results.toList q) ⟨[mkS s] ++ List.replicate (Tryz.f99.ntmps - 1) .jk, []⟩) = (
  (((⟨#[61]⟩ : ByteArray) = (sep1 (sepC (⟨#[61]⟩ : ByteArray)))) ∧ ((ByteArray.size s) ≤ LIM)) ∧
  bcase (!(cutB (sepC (⟨#[61]⟩ : ByteArray)) s)) (
   q (AV.tp [AV.ag [mkS ⟨#[]⟩, mkS ⟨#[]⟩], mkS ⟨#[]⟩, mkB false])) (
   ((ByteArray.size (cutU (sepC (⟨#[61]⟩ : ByteArray)) s)) ≤ LIM) ∧
   bcase (!(nameB (cutU (sepC (⟨#[61]⟩ : ByteArray)) s))) (
    q (AV.tp [AV.ag [mkS ⟨#[]⟩, mkS ⟨#[]⟩], mkS ⟨#[]⟩, mkB false])) (
    ((ByteArray.size (cutD (sepC (⟨#[61]⟩ : ByteArray)) s)) ≤ LIM) ∧
    q (AV.tp [AV.ag [mkS (cutU (sepC (⟨#[61]⟩ : ByteArray)) s), mkS (Prod.fst (valueT (cutD (sepC (⟨#[61]⟩ : ByteArray)) s)))], mkS (Prod.fst (Prod.snd (valueT (cutD (sepC (⟨#[61]⟩ : ByteArray)) s)))), mkB (Prod.snd (Prod.snd (valueT (cutD (sepC (⟨#[61]⟩ : ByteArray)) s))))])))) := by kernel_rfl
def attrT (s : ByteArray) : (ByteArray × ByteArray) × ByteArray × Bool :=
  if cutB 61 s = true then (if nameB (cutU 61 s) = true then ((cutU 61 s, (valueT (cutD 61 s)).1), (valueT (cutD 61 s)).2.1, (valueT (cutD 61 s)).2.2) else ((⟨#[]⟩, ⟨#[]⟩), ⟨#[]⟩, false)) else ((⟨#[]⟩, ⟨#[]⟩), ⟨#[]⟩, false)
def F49 : List AV → Option (Prop × AV) := fun al => match al with
  | [.d (.v (.string s))] => some (s.size ≤ LIM, .tp [.ag [mkS (attrT s).1.1, mkS (attrT s).1.2], mkS (attrT s).2.1, mkB (attrT s).2.2])
  | _ => none
theorem c49 : PSound Tryz.prog 99 (detE F49) := by
  refine det_fn (c := Tryz.b99) mixed Tryz.K_ok (gsound_det c38 (gsound_det c46 (gsound_det c67 gsound_nil))) Tryz.func99 rfl rfl Tryz.call99 fun al p r q hF hp hq => ?_
  unfold F49 at hF; split at hF <;> cases hF
  rename_i s
  refine cast (r49 _ q).symm ?_
  unfold attrT at hq
  change (_ = _ ∧ s.size ≤ LIM) ∧ bcase (!(cutB 61 s)) _ _
  refine ⟨⟨rfl, hp⟩, bcase_mk (fun h => ?_) (fun h => ⟨Nat.le_trans (cutU_le _ _) hp, bcase_mk (fun h1 => ?_) (fun h1 => ⟨Nat.le_trans (cutD_le _ _) hp, ?_⟩)⟩)⟩
  · have h : ¬ cutB 61 s = true := by simpa using h
    rw [if_neg h] at hq; exact hq
  · have h : cutB 61 s = true := by simpa using h
    have h1 : ¬ nameB (cutU 61 s) = true := by
      have h1 : (!nameB (cutU 61 s)) = true := h1
      have e : nameB (cutU 61 s) = false := by simpa using h1
      rw [e]; simp
    rw [if_pos h, if_neg h1] at hq; exact hq
  · have h : cutB 61 s = true := by simpa using h
    have h1 : (!nameB (cutU 61 s)) = false := h1
    have h1 : nameB (cutU 61 s) = true := by simpa using h1
    rw [if_pos h, if_pos h1] at hq; exact hq
end Go.Proofs.YtchpfeblinnoiaaGreatDoor

namespace Go.Proofs.YtchpfeblinnoiaaGreatDoor
open Go Go.AM Go.RowKit
def sAny : ByteArray := ⟨#[32, 9, 10, 13, 47]⟩
theorem any_low : ∀ b ∈ sAny.data.toList, b.toNat < 128 := by decide
theorem any_ascii (j : Nat) (b : UInt8) (h : sAny.data.toList[j]? = some b) : b.toNat < 128 := any_low b (List.mem_of_getElem? h)
theorem any_size : sAny.size = 5 := rfl
theorem decodeN_ok (n b0 b1 b2 b3 : Nat) (h0 : b0 < 256) : (Lib.decodeN n b0 b1 b2 b3).1 < 55296 ∨ (57343 < (Lib.decodeN n b0 b1 b2 b3).1 ∧ (Lib.decodeN n b0 b1 b2 b3).1 ≤ 1114111) := by
  unfold Lib.decodeN
  repeat' split
  all_goals (simp only; omega)
theorem decode_valid (s : ByteArray) (pos : Nat) : Lib.validRune ((Utf8.decode s pos).1 : Int) = true := by
  have h := decodeN_ok (s.size - pos) (s.get! pos).toNat (s.get! (pos + 1)).toNat (s.get! (pos + 2)).toNat (s.get! (pos + 3)).toNat (UInt8.toNat_lt _)
  rw [← Lib.decode_at] at h
  simp only [Lib.validRune, decide_eq_true_eq]
  omega
theorem indexByte_high (l : List UInt8) (c : UInt8) (h : ∀ b ∈ l, b ≠ c) : Lib.indexByte l c = -1 := by
  induction l with
  | nil => rfl
  | cons x l ih =>
    have hx : ¬ (x == c) = true := by simpa using h x (by simp)
    have := ih fun b hb => h b (by simp [hb])
    simp [Lib.indexByte, hx, this]
set_option maxHeartbeats 4000000 in
set_option maxRecDepth 1000000 in
theorem indexRune_err (w : World) : Calls Tryz.prog 109 #[.string sAny, .int .i32 65533] w fun e w' => e = .returned (.int .i64 (-1)) ∧ Below w.heap.size w w' := by
  go_enter Tryz.func109, Tryz.ntmps109
  go_wp2
  go_loopg [] 5 (fun g wx => ∃ pos : Nat, pos + g = 5 ∧ wx.heap[w.heap.size]? = some (.stringIter sAny pos) ∧ Below w.heap.size w wx)
  case atStart => exact ⟨0, rfl, World.iter_heap w sAny 0, (Below.refl _ _).alloc (Nat.le_refl _) _⟩
  case round =>
    obtain ⟨pos, hp, hit, hbw⟩ := hrel
    by_cases hps : pos < sAny.size
    · obtain ⟨g', rfl⟩ : ∃ g', gk = g' + 1 := ⟨gk - 1, by have := any_size; omega⟩
      have hxl : sAny.data.toList[pos]? = some (sAny[pos]'hps) := Lib.data_getElem? sAny pos hps
      have hx := any_ascii pos _ hxl
      have hnx : ∀ ty, (Instr.next (.pointer (some ⟨w.heap.size, 0, none⟩)) true ty).run Tryz.prog wr = _ := fun ty => Lib.run_next_any_at wr w.heap.size sAny pos ty hit hps
      rw [decode_ascii sAny pos hps hx] at hnx
      have hne : (((sAny[pos]'hps).toNat : Int) == 65533) = false := by
        rw [beq_eq_false_iff_ne]; omega
      obtain ⟨R, hR⟩ : ∃ R, (sAny[pos]'hps).toNat = R := ⟨_, rfl⟩
      simp only [hR] at hnx hne
      have hit2 := Lib.iterAt_heap wr w.heap.size sAny pos (pos + 1) hit
      have hbw2 := Lib.below_iterAt hbw (k := w.heap.size) (Nat.le_refl _) sAny (pos + 1)
      obtain ⟨W, hWd⟩ : ∃ W, wr.iterAt w.heap.size sAny (pos + 1) = W := ⟨_, rfl⟩
      simp only [hWd] at hnx hit2 hbw2
      go_wp2
      go_roundg g'
      case measure => omega
      case rel => exact ⟨pos + 1, by omega, hit2, hbw2⟩
    · have hnx : ∀ ty, (Instr.next (.pointer (some ⟨w.heap.size, 0, none⟩)) true ty).run Tryz.prog wr = _ := fun ty => Lib.run_next_end_at wr w.heap.size sAny pos ty hit hps
      go_wp2
      go_ret
      exact ⟨rfl, hbw⟩
def F73 : List AV → Option (Prop × AV) := fun al => match al with
  | [.d (.v (.string s)), .d (.v (.int .u8 c))] => some (True, mkI .i64 (Lib.indexByte s.data.toList c.toNat.toUInt8))
  | _ => none
theorem c73 : PSound Tryz.prog 122 (detE F73) := by
  refine ps2 Tryz.call122 fun al q h => ?_
  unfold detE at h
  split at h
  · rename_i p r hF
    unfold F73 at hF; split at hF <;> cases hF
    rename_i s c
    exact ⟨_, _, rfl, fun p0 _ w => (Tryz.strings_IndexByte s c w).mono fun e w' ⟨h1, h2⟩ => ⟨_, _, h1, h.2, fun X => mkI_rel, h2 ▸ Below.refl _ _⟩⟩
  · exact h.elim
def F74 : List AV → Option (Prop × AV) := fun al => match al with
  | [.d (.v (.int .i32 c))] => some (True, mkB (Lib.validRune c))
  | _ => none
theorem c74 : PSound Tryz.prog 123 (detE F74) := by
  refine ps1 Tryz.call123 fun al q h => ?_
  unfold detE at h
  split at h
  · rename_i p r hF
    unfold F74 at hF; split at hF <;> cases hF
    rename_i c
    exact ⟨_, rfl, fun p0 w => (Tryz.utf8_ValidRune c w).mono fun e w' ⟨h1, h2⟩ => ⟨_, _, h1, h.2, fun X => mkB_rel, h2 ▸ Below.refl _ _⟩⟩
  · exact h.elim
noncomputable abbrev G61 : List (FuncId × En) := [(123, .det F74), (122, .det F73)]
noncomputable def r61_k0 (q : AV → Prop) : Kont := kBlk (1 : Nat) (kSeq (aCode Tryz.K G61 (cAt [1, 0, 1, 1, 1, 1, 1, 1, 0, 1, 1, 1, 1, 1] Tryz.b109) (kBlk (0 : Nat) (kRet Tryz.K (Array.toList (Func.results Tryz.f109)) q))) (kBlk (0 : Nat) (kRet Tryz.K (Array.toList (Func.results Tryz.f109)) q)))
theorem r61 (r : Int) (q : AV → Prop) :
  (aCode Tryz.K G61 Tryz.b109 (kRet Tryz.K Tryz.f109.results.toList q) ⟨[mkS sAny, mkI .i32 r] ++ List.replicate (Tryz.f109.ntmps - 2) .jk, []⟩) = (
  bcase (decide ((0 : Int) ≤ r)) (
   bcase (decide (r < (128 : Int))) (
    True ∧
    q (mkI .i64 (Lib.indexByte (Array.toList (ByteArray.data sAny)) (Nat.toUInt8 (Int.toNat (IntKind.wrap .u8 r)))))) (
    bcase (r == (65533 : Int)) (
     False) (
     True ∧
     bcase (!(Lib.validRune r)) (
      q (mkI .i64 (-(1 : Int)))) (
      ((ByteArray.size (Utf8.encode r)) ≤ LIM) →
      ALoop (aCode Tryz.K G61 (cAt [1, 0, 1, 1, 1, 1, 1, 1, 0, 1, 1, 1, 1, 0, 0, 0] Tryz.b109)) (r61_k0 q) ⟨[mkS sAny, mkI .i32 r, AV.jk, AV.jk, mkI .i64 0, AV.jk, AV.jk, mkS (Utf8.encode r), mkI .i64 (IntKind.wrap .i64 (((ByteArray.size (Utf8.encode r)) : Int) - (1 : Int))), mkI .i64 (IntKind.wrap .i64 (((ByteArray.size (Utf8.encode r)) : Int) - (1 : Int))), mkI .i64 0, AV.jk, AV.jk, AV.jk, AV.jk, AV.jk, AV.jk, mkI .i32 r, mkS (Utf8.encode r), mkS (Utf8.encode r), mkI .i64 ((ByteArray.size (Utf8.encode r)) : Int), mkI .i64 (IntKind.wrap .i64 (((ByteArray.size (Utf8.encode r)) : Int) - (1 : Int))), mkI .i64 (IntKind.wrap .i64 (((ByteArray.size (Utf8.encode r)) : Int) - (1 : Int))), AV.jk, AV.jk, AV.jk, AV.jk, AV.jk, AV.jk, AV.jk, AV.jk, AV.jk, AV.jk, AV.jk, AV.jk, AV.jk, AV.jk, AV.jk, AV.jk, AV.jk, AV.jk, AV.jk, AV.jk, AV.jk, AV.jk, AV.jk, AV.jk, AV.jk, AV.jk, AV.jk, AV.jk, AV.jk, AV.jk, AV.jk, AV.jk, AV.jk, AV.jk, AV.jk, AV.jk, AV.jk, AV.jk, AV.jk, AV.jk, AV.jk, AV.jk, AV.jk, AV.jk, AV.jk, AV.jk, AV.jk, AV.jk, AV.jk, AV.jk, AV.jk, AV.jk, AV.jk, AV.jk, AV.jk, AV.jk, AV.jk, AV.jk, AV.jk, AV.jk, AV.jk, AV.jk, AV.jk, AV.jk, AV.jk, AV.jk, AV.jk, AV.jk, AV.jk, AV.jk, AV.jk, AV.jk, AV.jk, AV.jk, AV.jk, AV.jk, AV.jk, AV.jk, AV.jk, AV.jk, AV.jk, AV.jk, AV.jk, AV.jk, AV.jk, AV.jk, AV.jk, AV.jk, AV.jk, AV.jk, AV.jk, AV.jk, AV.jk, AV.jk, AV.jk, AV.jk, AV.jk, AV.jk, AV.jk, AV.jk, AV.jk, AV.jk, AV.jk, AV.jk, AV.jk, AV.jk, AV.jk, AV.jk, AV.jk, AV.jk, AV.jk, AV.jk, AV.jk, AV.jk, AV.jk, AV.jk, AV.jk, AV.jk, AV.jk, AV.jk, AV.jk, AV.jk, AV.jk, AV.jk, AV.jk, AV.jk, AV.jk, AV.jk, AV.jk, AV.jk, AV.jk, AV.jk, AV.jk, AV.jk, AV.jk, AV.jk, AV.jk, mkB false, mkI .i32 r, mkB (decide ((0 : Int) ≤ r)), mkB true, mkI .i32 r, mkB (decide (r < (128 : Int))), mkB (decide (r < (128 : Int))), AV.jk, AV.jk, AV.jk, AV.jk, mkB false, mkI .i32 r, mkB (r == (65533 : Int)), AV.jk, AV.jk, AV.jk, AV.jk, AV.jk, AV.jk, AV.jk, AV.jk, AV.jk, mkB false, mkI .i32 r, mkB (Lib.validRune r), mkB (!(Lib.validRune r))], []⟩)))) (
   bcase (r == (65533 : Int)) (
    False) (
    True ∧
    bcase (!(Lib.validRune r)) (
     q (mkI .i64 (-(1 : Int)))) (
     ((ByteArray.size (Utf8.encode r)) ≤ LIM) →
     ALoop (aCode Tryz.K G61 (cAt [1, 0, 1, 1, 1, 1, 1, 1, 0, 1, 1, 1, 1, 0, 0, 0] Tryz.b109)) (r61_k0 q) ⟨[mkS sAny, mkI .i32 r, AV.jk, AV.jk, mkI .i64 0, AV.jk, AV.jk, mkS (Utf8.encode r), mkI .i64 (IntKind.wrap .i64 (((ByteArray.size (Utf8.encode r)) : Int) - (1 : Int))), mkI .i64 (IntKind.wrap .i64 (((ByteArray.size (Utf8.encode r)) : Int) - (1 : Int))), mkI .i64 0, AV.jk, AV.jk, AV.jk, AV.jk, AV.jk, AV.jk, mkI .i32 r, mkS (Utf8.encode r), mkS (Utf8.encode r), mkI .i64 ((ByteArray.size (Utf8.encode r)) : Int), mkI .i64 (IntKind.wrap .i64 (((ByteArray.size (Utf8.encode r)) : Int) - (1 : Int))), mkI .i64 (IntKind.wrap .i64 (((ByteArray.size (Utf8.encode r)) : Int) - (1 : Int))), AV.jk, AV.jk, AV.jk, AV.jk, AV.jk, AV.jk, AV.jk, AV.jk, AV.jk, AV.jk, AV.jk, AV.jk, AV.jk, AV.jk, AV.jk, AV.jk, AV.jk, AV.jk, AV.jk, AV.jk, AV.jk, AV.jk, AV.jk, AV.jk, AV.jk, AV.jk, AV.jk, AV.jk, AV.jk, AV.jk, AV.jk, AV.jk, AV.jk, AV.jk, AV.jk, AV.jk, AV.jk, AV.jk, AV.jk, AV.jk, AV.jk, AV.jk, AV.jk, AV.jk, AV.jk, AV.jk, AV.jk, AV.jk, AV.jk, AV.jk, AV.jk, AV.jk, AV.jk, AV.jk, AV.jk, AV.jk, AV.jk, AV.jk, AV.jk, AV.jk, AV.jk, AV.jk, AV.jk, AV.jk, AV.jk, AV.jk, AV.jk, AV.jk, AV.jk, AV.jk, AV.jk, AV.jk, AV.jk, AV.jk, AV.jk, AV.jk, AV.jk, AV.jk, AV.jk, AV.jk, AV.jk, AV.jk, AV.jk, AV.jk, AV.jk, AV.jk, AV.jk, AV.jk, AV.jk, AV.jk, AV.jk, AV.jk, AV.jk, AV.jk, AV.jk, AV.jk, AV.jk, AV.jk, AV.jk, AV.jk, AV.jk, AV.jk, AV.jk, AV.jk, AV.jk, AV.jk, AV.jk, AV.jk, AV.jk, AV.jk, AV.jk, AV.jk, AV.jk, AV.jk, AV.jk, AV.jk, AV.jk, AV.jk, AV.jk, AV.jk, AV.jk, AV.jk, AV.jk, AV.jk, AV.jk, AV.jk, AV.jk, AV.jk, AV.jk, AV.jk, AV.jk, AV.jk, AV.jk, AV.jk, AV.jk, AV.jk, AV.jk, mkB false, mkI .i32 r, mkB (decide ((0 : Int) ≤ r)), mkB false, AV.tp [], AV.tp [], mkB false, AV.jk, AV.jk, AV.jk, AV.jk, mkB false, mkI .i32 r, mkB (r == (65533 : Int)), AV.jk, AV.jk, AV.jk, AV.jk, AV.jk, AV.jk, AV.jk, AV.jk, AV.jk, mkB false, mkI .i32 r, mkB (Lib.validRune r), mkB (!(Lib.validRune r))], []⟩)))) := by kernel_rfl
def st61 (r : Int) (E : ByteArray) (n : Int) : S := ⟨[mkS sAny, mkI .i32 r, .jk, .jk, mkI .i64 0, .jk, .jk, mkS E, mkI .i64 n, mkI .i64 n, mkI .i64 0] ++ jks 176, []⟩
noncomputable def r61_b_k0 {ι : Type} (st : ι → S) (inv : ι → Prop) (μ : ι → Nat) (k : ι) (q : AV → Prop) : Kont := kBlk (3 : Nat) (kSeq (aCode Tryz.K G61 (cAt [1, 0, 1, 1, 1, 1, 1, 1, 0, 1, 1, 1, 1, 0, 0, 0, 1, 0, 0, 1, 1] Tryz.b109) (kBlk (2 : Nat) (kFam st inv μ k (r61_k0 q)))) (kBlk (2 : Nat) (kFam st inv μ k (r61_k0 q))))
theorem r61_b {ι : Type} (st : ι → S) (inv : ι → Prop) (μ : ι → Nat) (k : ι) (r : Int) (E : ByteArray) (n : Int) (q : AV → Prop) :
  (aCode Tryz.K G61 (cAt [1, 0, 1, 1, 1, 1, 1, 1, 0, 1, 1, 1, 1, 0, 0, 0] Tryz.b109) (kFam st inv μ k (r61_k0 q)) (st61 r E n)) = (
  ((ByteArray.size sAny) ≤ LIM) →
  bcase (decide (n < ((ByteArray.size sAny) : Int))) (
   (((0 : Int) ≤ n) ∧ (n < ((ByteArray.size sAny) : Int))) ∧
   (((0 : Int) ≤ n) ∧ (n < ((ByteArray.size E) : Int))) ∧
   bcase (((UInt8.toNat (List.getD (Array.toList (ByteArray.data sAny)) (Int.toNat n) (0 : UInt8))) : Int) != ((UInt8.toNat (List.getD (Array.toList (ByteArray.data E)) (Int.toNat n) (0 : UInt8))) : Int)) (
    (((0 : Int) ≤ (IntKind.wrap .i64 (n + (1 : Int)))) ∧ ((IntKind.wrap .i64 (n + (1 : Int))) ≤ ((ByteArray.size sAny) : Int))) ∧
    (((0 : Int) ≤ n) ∧ (n < ((ByteArray.size E) : Int))) ∧
    True ∧
    True ∧
    bcase (decide ((Lib.indexByte (Array.toList (ByteArray.data (ByteArray.extract sAny (Int.toNat (IntKind.wrap .i64 (n + (1 : Int)))) (ByteArray.size sAny)))) (Nat.toUInt8 (Int.toNat ((UInt8.toNat (List.getD (Array.toList (ByteArray.data E)) (Int.toNat n) (0 : UInt8))) : Int)))) < (0 : Int))) (
     q (mkI .i64 (-(1 : Int)))) (
     ALoop (aCode Tryz.K G61 (cAt [1, 0, 1, 1, 1, 1, 1, 1, 0, 1, 1, 1, 1, 0, 0, 0, 1, 0, 0, 1, 0, 1, 0, 0] Tryz.b109)) (r61_b_k0 st inv μ k q) ⟨[mkS sAny, mkI .i32 r, AV.jk, AV.jk, mkI .i64 0, AV.jk, AV.jk, mkS E, mkI .i64 n, mkI .i64 (IntKind.wrap .i64 (n + (IntKind.wrap .i64 ((Lib.indexByte (Array.toList (ByteArray.data (ByteArray.extract sAny (Int.toNat (IntKind.wrap .i64 (n + (1 : Int)))) (ByteArray.size sAny)))) (Nat.toUInt8 (Int.toNat ((UInt8.toNat (List.getD (Array.toList (ByteArray.data E)) (Int.toNat n) (0 : UInt8))) : Int)))) + (1 : Int))))), mkI .i64 0, mkI .i64 (Lib.indexByte (Array.toList (ByteArray.data (ByteArray.extract sAny (Int.toNat (IntKind.wrap .i64 (n + (1 : Int)))) (ByteArray.size sAny)))) (Nat.toUInt8 (Int.toNat ((UInt8.toNat (List.getD (Array.toList (ByteArray.data E)) (Int.toNat n) (0 : UInt8))) : Int)))), mkI .i64 1, AV.jk, AV.jk, AV.jk, AV.jk, AV.jk, AV.jk, AV.jk, AV.jk, AV.jk, AV.jk, mkI .i64 n, mkS sAny, mkI .i64 ((ByteArray.size sAny) : Int), mkB true, mkS sAny, mkI .i64 n, mkI .u8 ((UInt8.toNat (List.getD (Array.toList (ByteArray.data sAny)) (Int.toNat n) (0 : UInt8))) : Int), mkS E, mkI .i64 n, mkI .u8 ((UInt8.toNat (List.getD (Array.toList (ByteArray.data E)) (Int.toNat n) (0 : UInt8))) : Int), mkB true, mkS sAny, mkI .i64 n, mkI .i64 (IntKind.wrap .i64 (n + (1 : Int))), mkS (ByteArray.extract sAny (Int.toNat (IntKind.wrap .i64 (n + (1 : Int)))) (ByteArray.size sAny)), mkS E, mkI .i64 n, mkI .u8 ((UInt8.toNat (List.getD (Array.toList (ByteArray.data E)) (Int.toNat n) (0 : UInt8))) : Int), mkI .i64 (Lib.indexByte (Array.toList (ByteArray.data (ByteArray.extract sAny (Int.toNat (IntKind.wrap .i64 (n + (1 : Int)))) (ByteArray.size sAny)))) (Nat.toUInt8 (Int.toNat ((UInt8.toNat (List.getD (Array.toList (ByteArray.data E)) (Int.toNat n) (0 : UInt8))) : Int)))), mkI .i64 (Lib.indexByte (Array.toList (ByteArray.data (ByteArray.extract sAny (Int.toNat (IntKind.wrap .i64 (n + (1 : Int)))) (ByteArray.size sAny)))) (Nat.toUInt8 (Int.toNat ((UInt8.toNat (List.getD (Array.toList (ByteArray.data E)) (Int.toNat n) (0 : UInt8))) : Int)))), mkB false, mkI .i64 n, mkI .i64 (Lib.indexByte (Array.toList (ByteArray.data (ByteArray.extract sAny (Int.toNat (IntKind.wrap .i64 (n + (1 : Int)))) (ByteArray.size sAny)))) (Nat.toUInt8 (Int.toNat ((UInt8.toNat (List.getD (Array.toList (ByteArray.data E)) (Int.toNat n) (0 : UInt8))) : Int)))), mkI .i64 (IntKind.wrap .i64 ((Lib.indexByte (Array.toList (ByteArray.data (ByteArray.extract sAny (Int.toNat (IntKind.wrap .i64 (n + (1 : Int)))) (ByteArray.size sAny)))) (Nat.toUInt8 (Int.toNat ((UInt8.toNat (List.getD (Array.toList (ByteArray.data E)) (Int.toNat n) (0 : UInt8))) : Int)))) + (1 : Int))), mkI .i64 (IntKind.wrap .i64 (n + (IntKind.wrap .i64 ((Lib.indexByte (Array.toList (ByteArray.data (ByteArray.extract sAny (Int.toNat (IntKind.wrap .i64 (n + (1 : Int)))) (ByteArray.size sAny)))) (Nat.toUInt8 (Int.toNat ((UInt8.toNat (List.getD (Array.toList (ByteArray.data E)) (Int.toNat n) (0 : UInt8))) : Int)))) + (1 : Int))))), AV.jk, AV.jk, AV.jk, AV.jk, AV.jk, AV.jk, AV.jk, AV.jk, AV.jk, AV.jk, AV.jk, AV.jk, AV.jk, AV.jk, AV.jk, AV.jk, AV.jk, AV.jk, AV.jk, AV.jk, AV.jk, AV.jk, AV.jk, AV.jk, AV.jk, AV.jk, AV.jk, AV.jk, AV.jk, AV.jk, AV.jk, AV.jk, AV.jk, AV.jk, AV.jk, AV.jk, AV.jk, AV.jk, AV.jk, AV.jk, AV.jk, AV.jk, AV.jk, AV.jk, AV.jk, AV.jk, AV.jk, AV.jk, AV.jk, AV.jk, AV.jk, AV.jk, AV.jk, AV.jk, AV.jk, AV.jk, AV.jk, AV.jk, AV.jk, AV.jk, AV.jk, AV.jk, AV.jk, AV.jk, AV.jk, AV.jk, AV.jk, AV.jk, AV.jk, AV.jk, AV.jk, AV.jk, AV.jk, AV.jk, AV.jk, AV.jk, AV.jk, AV.jk, AV.jk, AV.jk, AV.jk, AV.jk, AV.jk, AV.jk, AV.jk, AV.jk, AV.jk, AV.jk, AV.jk, AV.jk, AV.jk, AV.jk, AV.jk, AV.jk, AV.jk, AV.jk, AV.jk, AV.jk, AV.jk, AV.jk, AV.jk, AV.jk, AV.jk, AV.jk, AV.jk, AV.jk, AV.jk, AV.jk, AV.jk, AV.jk, AV.jk, AV.jk, AV.jk, AV.jk, AV.jk, AV.jk, AV.jk, AV.jk, AV.jk, AV.jk, AV.jk, AV.jk, AV.jk, AV.jk, AV.jk, AV.jk, AV.jk, AV.jk, AV.jk, AV.jk, AV.jk, AV.jk, AV.jk, AV.jk, AV.jk, AV.jk, AV.jk, AV.jk, AV.jk], []⟩)) (
    ALoop (aCode Tryz.K G61 (cAt [1, 0, 1, 1, 1, 1, 1, 1, 0, 1, 1, 1, 1, 0, 0, 0, 1, 0, 0, 1, 0, 1, 0, 0] Tryz.b109)) (r61_b_k0 st inv μ k q) ⟨[mkS sAny, mkI .i32 r, AV.jk, AV.jk, mkI .i64 0, AV.jk, AV.jk, mkS E, mkI .i64 n, mkI .i64 n, mkI .i64 0, AV.jk, mkI .i64 1, AV.jk, AV.jk, AV.jk, AV.jk, AV.jk, AV.jk, AV.jk, AV.jk, AV.jk, AV.jk, mkI .i64 n, mkS sAny, mkI .i64 ((ByteArray.size sAny) : Int), mkB true, mkS sAny, mkI .i64 n, mkI .u8 ((UInt8.toNat (List.getD (Array.toList (ByteArray.data sAny)) (Int.toNat n) (0 : UInt8))) : Int), mkS E, mkI .i64 n, mkI .u8 ((UInt8.toNat (List.getD (Array.toList (ByteArray.data E)) (Int.toNat n) (0 : UInt8))) : Int), mkB false, AV.jk, AV.jk, AV.jk, AV.jk, AV.jk, AV.jk, AV.jk, AV.jk, AV.jk, AV.jk, AV.jk, AV.jk, AV.jk, AV.jk, AV.jk, AV.jk, AV.jk, AV.jk, AV.jk, AV.jk, AV.jk, AV.jk, AV.jk, AV.jk, AV.jk, AV.jk, AV.jk, AV.jk, AV.jk, AV.jk, AV.jk, AV.jk, AV.jk, AV.jk, AV.jk, AV.jk, AV.jk, AV.jk, AV.jk, AV.jk, AV.jk, AV.jk, AV.jk, AV.jk, AV.jk, AV.jk, AV.jk, AV.jk, AV.jk, AV.jk, AV.jk, AV.jk, AV.jk, AV.jk, AV.jk, AV.jk, AV.jk, AV.jk, AV.jk, AV.jk, AV.jk, AV.jk, AV.jk, AV.jk, AV.jk, AV.jk, AV.jk, AV.jk, AV.jk, AV.jk, AV.jk, AV.jk, AV.jk, AV.jk, AV.jk, AV.jk, AV.jk, AV.jk, AV.jk, AV.jk, AV.jk, AV.jk, AV.jk, AV.jk, AV.jk, AV.jk, AV.jk, AV.jk, AV.jk, AV.jk, AV.jk, AV.jk, AV.jk, AV.jk, AV.jk, AV.jk, AV.jk, AV.jk, AV.jk, AV.jk, AV.jk, AV.jk, AV.jk, AV.jk, AV.jk, AV.jk, AV.jk, AV.jk, AV.jk, AV.jk, AV.jk, AV.jk, AV.jk, AV.jk, AV.jk, AV.jk, AV.jk, AV.jk, AV.jk, AV.jk, AV.jk, AV.jk, AV.jk, AV.jk, AV.jk, AV.jk, AV.jk, AV.jk, AV.jk, AV.jk, AV.jk, AV.jk, AV.jk, AV.jk, AV.jk, AV.jk, AV.jk, AV.jk, AV.jk, AV.jk, AV.jk, AV.jk, AV.jk, AV.jk, AV.jk, AV.jk, AV.jk, AV.jk, AV.jk, AV.jk, AV.jk, AV.jk, AV.jk], []⟩)) (
   q (mkI .i64 (-(1 : Int))))) := by kernel_rfl
theorem mem_extract' {s : ByteArray} {a e : Nat} {b : UInt8} (h : b ∈ (s.extract a e).data.toList) : b ∈ s.data.toList := by
  rw [ByteArray.data_extract, Array.toList_extract] at h
  exact List.mem_of_mem_drop (List.mem_of_mem_take h)
theorem getD_list (s : ByteArray) (n : Nat) (h : n < s.size) : s.data.toList.getD n 0 = s[n]'h := by
  have := Lib.data_getElem? s n h
  rw [List.getD_eq_getElem?_getD, this]; rfl
def F61 : List AV → Option (Prop × AV) := fun al => match al with
  | [.d (.v (.string s)), .d (.v (.int .i32 r))] => some (s = sAny ∧ 128 ≤ r ∧ r ≠ 65533 ∧ Lib.validRune r = true, mkI .i64 (-1))
  | _ => none
set_option maxRecDepth 4000 in
theorem c61 : PSound Tryz.prog 109 (detE F61) := by
  refine det_fn (c := Tryz.b109) mixed Tryz.K_ok (gsound_det c74 (gsound_det c73 gsound_nil)) Tryz.func109 rfl rfl Tryz.call109 fun al p r q hF hp hq => ?_
  unfold F61 at hF; split at hF <;> cases hF
  rename_i s r
  obtain ⟨rfl, h0, he, hv⟩ := hp
  refine cast (r61 r q).symm ?_
  refine bcase_mk (fun _ => bcase_mk (fun h => absurd (of_decide_eq_true h) (by omega)) (fun _ => bcase_mk (fun h => absurd (by simpa using h) he) (fun _ => ⟨trivial, ?_⟩))) (fun h => absurd (show 0 ≤ r by omega) (of_decide_eq_false h))
  rw [hv]
  refine fun _ => ?_
  have hu : Utf8.valid r = true := by rw [Utf8.valid]; simp only [Lib.validRune, decide_eq_true_eq] at hv; simp; omega
  obtain ⟨e1, e2, e3⟩ := encode_facts r hu h0
  generalize Utf8.encode r = E at e1 e2 e3
  obtain ⟨n, hn⟩ : ∃ n, E.size - 1 = n := ⟨_, rfl⟩
  have hn1 : n < E.size := by omega
  have hw : IntKind.i64.wrap ((E.size : Int) - 1) = (n : Int) := by rw [IntWalk.i64_in _ (by omega)]; omega
  rw [hw]
  refine ALoop.intro (fun _ : Unit => st61 r E n) (fun _ => True) (fun _ => 0) ⟨[], (), by simp [S.le, sealAll, leL, jks, st61], trivial⟩ fun _ _ => ?_
  refine cast (r61_b _ _ _ _ r E n q).symm ?_
  have h5 : sAny.size = 5 := rfl
  have hw2 : IntKind.i64.wrap ((n : Int) + 1) = ((n + 1 : Nat) : Int) := by rw [IntWalk.i64_in _ (by omega)]; omega
  have hC : 128 ≤ (E.data.toList.getD n 0).toNat := by
    have := e3 (by omega)
    simp only [hn] at this
    rw [getD_list E n hn1]; exact this
  have hB : (sAny.data.toList.getD n 0).toNat < 128 := by
    rw [getD_list sAny n (by omega)]; exact any_ascii n _ (Lib.data_getElem? sAny n (by omega))
  rw [hw2]
  simp only [Int.toNat_natCast]
  obtain ⟨C, hCe⟩ : ∃ C, E.data.toList.getD n 0 = C := ⟨_, rfl⟩
  obtain ⟨B, hBe⟩ : ∃ B, sAny.data.toList.getD n 0 = B := ⟨_, rfl⟩
  rw [hCe] at hC
  rw [hBe] at hB
  simp only [hCe, hBe]
  refine fun _ => bcase_mk (fun _ => ⟨by omega, by omega, bcase_mk (fun _ => ⟨by omega, by omega, trivial, trivial, bcase_mk (fun _ => hq) (fun h => ?_)⟩) (fun h => ?_)⟩) (fun h => absurd (show (n : Int) < (sAny.size : Int) by omega) (of_decide_eq_false h))
  · exfalso
    have := of_decide_eq_false h
    rw [indexByte_high _ _ fun b hb e => ?_] at this
    · omega
    · have := any_low b (mem_extract' hb)
      have e2 : b = C := by rw [e]; simp
      rw [e2] at this
      omega
  · exfalso
    have h : (B.toNat : Int) = (C.toNat : Int) := by simpa using h
    omega
theorem indexRune_high (r : Int) (h0 : 128 ≤ r) (hv : Lib.validRune r = true) (w : World) (hT : Tabs (fun _ => False) w) : Calls Tryz.prog 109 #[.string sAny, .int .i32 r] w fun e w' => e = .returned (.int .i64 (-1)) ∧ Below w.heap.size w w' := by
  by_cases he : r = 65533
  · subst he; exact indexRune_err w
  · refine (c61.call (fun _ => False) w [mkS sAny, mkI .i32 r] #[.string sAny, .int .i32 r] (fun av => av = mkI .i64 (-1)) (fun b h => h.elim) hT rfl (fun i hi => ?_) ⟨⟨rfl, h0, he, hv⟩, rfl⟩).mono ?_
    · match i, hi with
      | 0, _ => exact mkS_rel (by decide)
      | 1, _ => exact mkI_rel
    · rintro e w' ⟨v, av, rfl, rfl, hv, hb⟩
      exact ⟨by rw [inv_int hv], hb⟩
theorem decode_high_bytes (s : ByteArray) (pos : Nat) (h0 : 128 ≤ (s.get! pos).toNat) : ∀ k, k < (Utf8.decode s pos).2 → 128 ≤ (s.get! (pos + k)).toNat := by
  have hb : ∀ k, (s.get! (pos + k)).toNat < 256 := fun k => (s.get! (pos + k)).toNat_lt
  intro k hk
  have h0' : 128 ≤ (s.get! (pos + 0)).toNat := h0
  simp only [Utf8.decode] at hk
  rcases Nat.eq_zero_or_pos k with rfl | hk0
  · exact h0
  · split at hk
    · simp only at hk; omega
    · split at hk
      · rename_i h1
        simp only [Bool.and_eq_true, beq_iff_eq, decide_eq_true_eq] at h1
        split at hk
        · have : k = 1 := by simp only at hk; omega
          subst this; omega
        · simp only at hk; omega
      · split at hk
        · rename_i h1
          simp only [Bool.and_eq_true, beq_iff_eq, decide_eq_true_eq] at h1
          split at hk
          · have : k = 1 ∨ k = 2 := by simp only at hk; omega
            rcases this with rfl | rfl <;> omega
          · simp only at hk; omega
        · split at hk
          · rename_i h1
            simp only [Bool.and_eq_true, beq_iff_eq, decide_eq_true_eq] at h1
            split at hk
            · have : k = 1 ∨ k = 2 ∨ k = 3 := by simp only at hk; omega
              rcases this with rfl | rfl | rfl <;> omega
            · simp only at hk; omega
          · simp only at hk; omega
theorem get_list (s : ByteArray) (j : Nat) (b : UInt8) (h : s.data.toList[j]? = some b) : s.get! j = b := by
  have : s.get! j = s.data.toList.getD j 0 := (Lib.getD_get! s j).symm
  rw [this, List.getD_eq_getElem?_getD, h]; rfl
theorem NoAny_wide {s : ByteArray} {pos : Nat} (h : Lib.NoAny s.data.toList sAny.data.toList pos) (h0 : 128 ≤ (s.get! pos).toNat) : Lib.NoAny s.data.toList sAny.data.toList (pos + (Utf8.decode s pos).2) := by
  intro j b hj hb
  rcases Nat.lt_or_ge j pos with hlt | hge
  · exact h j b hlt hb
  · have := decode_high_bytes s pos h0 (j - pos) (by omega)
    rw [show pos + (j - pos) = j by omega, get_list s j b hb] at this
    cases hc : sAny.data.toList.contains b
    · rfl
    · have := any_low b (by simpa using hc)
      omega
set_option maxHeartbeats 8000000 in
set_option maxRecDepth 1000000 in
theorem indexAny_short (s : ByteArray) (w : World) (h8 : s.size ≤ 8) (hT : Tabs (fun _ => False) w) :
    Calls Tryz.prog 97 #[.string s, .string sAny] w fun e w' => e = .returned (.int .i64 (Lib.indexAny s.data.toList sAny.data.toList)) ∧ Below w.heap.size w w' := by
  have hemp : sAny.toList.isEmpty = false := by rw [Lib.toList_data]; rfl
  have hn1 : ((sAny.size : Int) == 1) = false := by decide
  have h8z : decide ((8 : Int) < (s.size : Int)) = false := decide_eq_false (by omega)
  obtain ⟨ANS, hANS⟩ : ∃ ANS, Lib.indexAny s.data.toList sAny.data.toList = ANS := ⟨_, rfl⟩
  rw [hANS]
  have HANS : Aside (Lib.indexAny s.data.toList sAny.data.toList = ANS) := hANS
  clear hANS
  have cS := fun w => Tryz.strings_shouldUseASCIISet (s.size : Int) w
  rw [h8z] at cS
  go_enter Tryz.func97, Tryz.ntmps97
  go_wp2_with (go_at_call 114; refine (cS _).mono ?_; rintro e w' ⟨rfl, hw⟩; rw [hw])
  go_loopg [9, 10] s.size (fun g _ _ wx => ∃ pos : Nat, wx.heap[w.heap.size]? = some (.stringIter s pos) ∧ Below w.heap.size w wx ∧ Aside (Lib.NoAny s.data.toList sAny.data.toList pos) ∧ s.size ≤ pos + g)
  case atStart => exact ⟨0, World.iter_heap w s 0, (Below.refl _ _).alloc (Nat.le_refl _) _, Lib.NoAny.zero _ _, by omega⟩
  case round =>
    obtain ⟨pos, hit, hbw, HN, hfu⟩ := hrel
    by_cases hps : pos < s.size
    · obtain ⟨g', rfl⟩ : ∃ g', gk = g' + 1 := ⟨gk - 1, by omega⟩
      have hnx : ∀ ty, (Instr.next (.pointer (some ⟨w.heap.size, 0, none⟩)) true ty).run Tryz.prog wr = _ := fun ty => Lib.run_next_any_at wr w.heap.size s pos ty hit hps
      have hwd := Lib.width_pos s pos
      have hvR := decode_valid s pos
      have hget : s.get! pos = s[pos]'hps := by have := get_at s pos hps; simpa using this
      have Hasc : Aside ((s[pos]'hps).toNat < 128 → Utf8.decode s pos = ((s[pos]'hps).toNat, 1)) := decode_ascii s pos hps
      have Hhigh : Aside (128 ≤ (s[pos]'hps).toNat → 128 ≤ (Utf8.decode s pos).1) := fun h => (decode_high s pos hps h).1
      have Hwide : Aside (128 ≤ (s.get! pos).toNat → Lib.NoAny s.data.toList sAny.data.toList (pos + (Utf8.decode s pos).2)) := NoAny_wide HN.out
      have Hx : Aside (s.data.toList[pos]? = some (s[pos]'hps)) := Lib.data_getElem? s pos hps
      obtain ⟨R, hR⟩ : ∃ R, (Utf8.decode s pos).1 = R := ⟨_, rfl⟩
      obtain ⟨K, hK⟩ : ∃ K, (Utf8.decode s pos).2 = K := ⟨_, rfl⟩
      obtain ⟨x, hx⟩ : ∃ x, s[pos]'hps = x := ⟨_, rfl⟩
      rw [hR, hK] at hnx
      rw [hK] at hwd
      rw [hR] at hvR
      rw [hx] at hget
      have hit2 := Lib.iterAt_heap wr w.heap.size s pos (pos + K) hit
      have hbw2 := Lib.below_iterAt hbw (k := w.heap.size) (Nat.le_refl _) s (pos + K)
      obtain ⟨W, hWd⟩ : ∃ W, wr.iterAt w.heap.size s (pos + K) = W := ⟨_, rfl⟩
      rw [hWd] at hnx hit2 hbw2
      have hltW : w.heap.size < W.heap.size := (Array.getElem?_eq_some_iff.1 hit2).1
      by_cases hlo : x.toNat < 128
      · have hd := Hasc.out (by rw [hx]; exact hlo)
        have e1 : R = x.toNat := by rw [← hR, hd, hx]
        have e2 : K = 1 := by rw [← hK, hd]
        have hxl : s.data.toList[pos]? = some x := by rw [← hx]; exact Hx.out
        have Hxl : Aside (s.data.toList[pos]? = some x) := hxl
        clear hxl hd Hasc Hhigh Hwide Hx hx hget hvR hR hK
        subst e1 e2
        have cR := Tryz.strings_IndexRune_ascii sAny (x.toNat : Int) W (by omega) (by omega)
        have hcon := Lib.contains_iff_indexByte sAny.data.toList x
        have hback : ((x.toNat : Int)).toNat.toUInt8 = x := by simp
        rw [hback] at cR
        cases hin : sAny.data.toList.contains x
        · rw [hin] at hcon
          have hlt : ¬ ((0 : Int) ≤ Lib.indexByte sAny.data.toList x) := of_decide_eq_false hcon.symm
          have HN2 : Aside (Lib.NoAny s.data.toList sAny.data.toList (pos + 1)) := HN.out.succ Hxl.out hin
          clear hcon hin HN Hxl
          go_wp2_with (go_at_call 109; refine cR.mono ?_; rintro e W' ⟨rfl, hw⟩; rw [hw])
          go_roundg g'
          case measure => omega
          case rel => exact ⟨pos + 1, hit2, hbw2, HN2, by omega⟩
        · rw [hin] at hcon
          have hge : (0 : Int) ≤ Lib.indexByte sAny.data.toList x := of_decide_eq_true hcon.symm
          have e : ANS = pos := by rw [← HANS.out, Lib.indexAny_hit HN.out Hxl.out hin]
          subst e
          clear hcon hin HN Hxl HANS
          go_wp2_with (go_at_call 109; refine cR.mono ?_; rintro e W' ⟨rfl, hw⟩; rw [hw])
          go_ret
          exact ⟨rfl, hbw2⟩
      · have h128 : 128 ≤ x.toNat := by omega
        have hRh : 128 ≤ R := by rw [← hR]; exact Hhigh.out (by rw [hx]; exact h128)
        have HN2 : Aside (Lib.NoAny s.data.toList sAny.data.toList (pos + K)) := by rw [← hK]; exact Hwide.out (by rw [hget]; exact h128)
        clear Hasc Hhigh Hwide Hx hx hget hR hK HN
        have cR := indexRune_high (R : Int) (by omega) hvR W (tabs_below hbw2 hT)
        go_wp2_with (go_at_call 109; refine cR.mono ?_; rintro e W' ⟨rfl, hbc⟩)
        go_roundg g'
        case measure => omega
        case rel => exact ⟨pos + K, (hbc.block _ hltW).trans hit2, (hbw2.trans (hbc.mono hbw2.size)), HN2, by omega⟩
    · have hnx : ∀ ty, (Instr.next (.pointer (some ⟨w.heap.size, 0, none⟩)) true ty).run Tryz.prog wr = _ := fun ty => Lib.run_next_end_at wr w.heap.size s pos ty hit hps
      have e : ANS = -1 := by
        rw [← HANS.out, Lib.indexAny_none]
        intro j b hj hb
        exact HN.out j b (by have : s.data.toList.length = s.size := Array.length_toList; omega) hb
      subst e
      go_wp2
      go_ret
      exact ⟨rfl, hbw⟩
def anyI (s : ByteArray) : Int := Lib.indexAny s.data.toList sAny.data.toList
def F47 : List AV → Option (Prop × AV) := fun al => match al with
  | [.d (.v (.string s)), .d (.v (.string c))] => some (c = sAny ∧ s.size ≤ LIM, mkI .i64 (anyI s))
  | _ => none
theorem c47 : PSound Tryz.prog 97 (detE F47) := by
  refine ⟨Tryz.call97, fun ext w al vs q hext hT hlen hrel hE => ?_⟩
  unfold detE at hE
  split at hE
  · rename_i p r hF
    unfold F47 at hF; split at hF <;> cases hF
    rename_i s c
    obtain ⟨⟨rfl, hs⟩, hq⟩ := hE
    have e0 := (inv_str (hrel 0 (by simp))).1
    have e1 := (inv_str (hrel 1 (by simp))).1
    have := arr2 (by simpa using hlen) e0 e1
    subst this
    have hT' := hT.fewer (own' := fun _ => False) fun _ h => h.elim
    by_cases h8 : s.size ≤ 8
    · exact (indexAny_short s w h8 hT').mono fun e w' ⟨h1, h2⟩ => ⟨_, _, h1, hq, mkI_rel, h2⟩
    · refine (Tryz.strings_IndexAny_long zeroSet s sAny w (by decide) (by omega) (Nat.lt_of_le_of_lt hs (by decide)) (by decide) any_ascii).mono fun e w' ⟨h1, h2⟩ => ⟨_, _, h1, hq, mkI_rel, ?_⟩
      rw [h2]
      exact ((Below.refl _ _).alloc (Nat.le_refl _) _).alloc (by show _ ≤ (w.heap.push _).size; rw [Array.size_push]; exact Nat.le_succ _) _
  · exact hE.elim
end Go.Proofs.YtchpfeblinnoiaaGreatDoor
