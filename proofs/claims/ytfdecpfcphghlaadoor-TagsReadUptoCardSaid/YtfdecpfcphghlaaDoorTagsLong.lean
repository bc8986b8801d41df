import Derived.Test.YtfdecpfcphghlaaDoorTagsPlain
set_option linter.unusedSimpArgs false
set_option linter.unusedVariables false
set_option maxHeartbeats 4000000
namespace Go.Proofs.YtfdecpfcphghlaaDoor
open Go Go.AM Go.RowKit
attribute [local irreducible] aCode bcase

-- TagsLong
noncomputable def r8_k0 (q : AV → Prop) : Kont := kBlk (0 : Nat) (kSeq (aCode Tryd.K YtfdecpfcphghlaaDoor.GL (cAt [1, 1, 1, 1, 1, 1] Tryd.b8) (kRet Tryd.K (Array.toList (Func.results Tryd.f8)) q)) (kRet Tryd.K (Array.toList (Func.results Tryd.f8)) q))
theorem r8 (n : Int) (within : Bool) (q : AV → Prop) :
  (aCode Tryd.K GL Tryd.b8 (kRet Tryd.K Tryd.f8.results.toList q) ⟨[mkI .i64 n, mkB within] ++ List.replicate (Tryd.f8.ntmps - 2) .jk, []⟩) = (
  True ∧
  (((600 : Int) = (0 : Int)) → False) ∧
  (([] : List AV) = []) ∧
  bcase within (
   ∃ (b : ByteArray),
   ∃ (w : Bool),
   ∃ (e : Int),
   ([Ob.box [AV.vw ((0 : Nat) + (1 : Nat)) (0 : Nat), mkB false, mkI IntKind.i64 (0 : Int)], Ob.row (1 : Nat) [], Ob.gh [AV.rf (0 : Nat) (0 : Nat)]] = [Ob.box [AV.vw (1 : Nat) (List.length (bytesD b)), mkB w, mkI IntKind.i64 e], Ob.row (1 : Nat) (bytesD b), Ob.gh [AV.rf (0 : Nat) (0 : Nat)]]) ∧
   ((ByteArray.size b) ≤ (512 : Nat)) ∧
   ((ByteArray.size (⟨#[(60 : UInt8)]⟩ : ByteArray)) ≤ (1000000000 : Nat)) ∧
   ((Option.some (Ob.gh [AV.rf (0 : Nat) (0 : Nat)])) = (Option.some (Ob.gh [AV.rf (0 : Nat) (0 : Nat)]))) ∧
   ALoop (aCode Tryd.K YtfdecpfcphghlaaDoor.GL (cAt [1, 1, 1, 1, 1, 0, 1, 0, 0] Tryd.b8)) (YtfdecpfcphghlaaDoor.r8_k0 q) ⟨[mkI IntKind.i64 (IntKind.wrap IntKind.i64 (Int.tmod (IntKind.wrap IntKind.u64 n) (600 : Int))), mkB within, AV.jk, AV.jk, mkB false, AV.rf (0 + (0 : Nat)) (0 : Nat), mkI IntKind.i64 (0 : Int), AV.jk, AV.jk, mkB true, mkB false, mkI IntKind.i64 n, mkI IntKind.u64 (IntKind.wrap IntKind.u64 n), mkI IntKind.u64 (Int.tmod (IntKind.wrap IntKind.u64 n) (600 : Int)), mkI IntKind.i64 (IntKind.wrap IntKind.i64 (Int.tmod (IntKind.wrap IntKind.u64 n) (600 : Int))), AV.rf (0 + (0 : Nat)) (0 : Nat), mkB true, AV.rf (0 + (0 : Nat)) (0 : Nat), AV.tp [AV.d (D.sl (YtfdecpfcphghlaaDoor.toksD (Prod.fst (YtfdecpfcphghlaaDoor.feedL (Array.toList (ByteArray.data (⟨#[(60 : UInt8)]⟩ : ByteArray))) b w e)))), mkI IntKind.i64 (Prod.snd (Prod.snd (Prod.snd (YtfdecpfcphghlaaDoor.feedL (Array.toList (ByteArray.data (⟨#[(60 : UInt8)]⟩ : ByteArray))) b w e))))], AV.jk, AV.jk, AV.jk, AV.jk, AV.jk, AV.jk, AV.jk, AV.jk, AV.jk, AV.jk, AV.jk, AV.jk, AV.jk, AV.jk, AV.jk, AV.jk, AV.jk, AV.jk, AV.jk, AV.jk, AV.jk, AV.jk, AV.jk, AV.jk, AV.jk, AV.jk, AV.jk, AV.jk, AV.jk, AV.jk, AV.jk, AV.jk, AV.jk, AV.jk, AV.jk, AV.jk, AV.jk, AV.jk, AV.jk, AV.jk, AV.jk], [Ob.box [AV.vw (if (1 : Nat) < 2 then 1 else 3 + ((1 : Nat) - 2)) (List.length (bytesD (Prod.fst (Prod.snd (YtfdecpfcphghlaaDoor.feedL (Array.toList (ByteArray.data (⟨#[(60 : UInt8)]⟩ : ByteArray))) b w e))))), mkB (Prod.fst (Prod.snd (Prod.snd (YtfdecpfcphghlaaDoor.feedL (Array.toList (ByteArray.data (⟨#[(60 : UInt8)]⟩ : ByteArray))) b w e)))), mkI IntKind.i64 (Prod.snd (Prod.snd (Prod.snd (YtfdecpfcphghlaaDoor.feedL (Array.toList (ByteArray.data (⟨#[(60 : UInt8)]⟩ : ByteArray))) b w e))))], Ob.row (1 : Nat) (bytesD (Prod.fst (Prod.snd (YtfdecpfcphghlaaDoor.feedL (Array.toList (ByteArray.data (⟨#[(60 : UInt8)]⟩ : ByteArray))) b w e)))), Ob.gone, Ob.gone]⟩) (
   ALoop (aCode Tryd.K YtfdecpfcphghlaaDoor.GL (cAt [1, 1, 1, 1, 1, 0, 1, 0, 0] Tryd.b8)) (YtfdecpfcphghlaaDoor.r8_k0 q) ⟨[mkI IntKind.i64 (IntKind.wrap IntKind.i64 (Int.tmod (IntKind.wrap IntKind.u64 n) (600 : Int))), mkB within, AV.jk, AV.jk, mkB false, AV.rf (0 + (0 : Nat)) (0 : Nat), mkI IntKind.i64 (0 : Int), AV.jk, AV.jk, mkB true, mkB false, mkI IntKind.i64 n, mkI IntKind.u64 (IntKind.wrap IntKind.u64 n), mkI IntKind.u64 (Int.tmod (IntKind.wrap IntKind.u64 n) (600 : Int)), mkI IntKind.i64 (IntKind.wrap IntKind.i64 (Int.tmod (IntKind.wrap IntKind.u64 n) (600 : Int))), AV.rf (0 + (0 : Nat)) (0 : Nat), mkB false, AV.jk, AV.jk, AV.jk, AV.jk, AV.jk, AV.jk, AV.jk, AV.jk, AV.jk, AV.jk, AV.jk, AV.jk, AV.jk, AV.jk, AV.jk, AV.jk, AV.jk, AV.jk, AV.jk, AV.jk, AV.jk, AV.jk, AV.jk, AV.jk, AV.jk, AV.jk, AV.jk, AV.jk, AV.jk, AV.jk, AV.jk, AV.jk, AV.jk, AV.jk, AV.jk, AV.jk, AV.jk, AV.jk, AV.jk, AV.jk, AV.jk, AV.jk, AV.jk], [Ob.box [AV.vw (0 + (1 : Nat)) (0 : Nat), mkB false, mkI IntKind.i64 (0 : Int)], Ob.row (1 : Nat) []]⟩)) := by kernel_rfl

def st8 (N : Int) (b : List (List D)) (w : Bool) (e i : Int) : S := ⟨[mkI .i64 N, .jk, .jk, .jk, .jk, .rf 0 0, mkI .i64 i] ++ jks 53, [.box [.vw 1 b.length, mkB w, mkI .i64 e], .row 1 b]⟩
def m8 : List Bool := maskOf (st8 0 [] false 0 0)
theorem r8_b {ι : Type} (st : ι → S) (inv : ι → Prop) (μ : ι → Nat) (k : ι) (N : Int) (b : List (List D)) (w : Bool) (e i : Int) (q : AV → Prop) :
  (aCode Tryd.K GL (cAt [1, 1, 1, 1, 1, 0, 1, 0, 0] Tryd.b8) (kFamM [] m8 st inv μ k (r8_k0 q)) (st8 N b w e i)) = (
  bcase (decide (i < N)) (
   ∃ (b_1 : ByteArray),
   ∃ (w_1 : Bool),
   ∃ (e_1 : Int),
   ([Ob.box [AV.vw ((0 : Nat) + (1 : Nat)) (List.length b), mkB w, mkI IntKind.i64 e], Ob.row (1 : Nat) b, Ob.gh [AV.rf (0 : Nat) (0 : Nat)]] = [Ob.box [AV.vw (1 : Nat) (List.length (bytesD b_1)), mkB w_1, mkI IntKind.i64 e_1], Ob.row (1 : Nat) (bytesD b_1), Ob.gh [AV.rf (0 : Nat) (0 : Nat)]]) ∧
   ((ByteArray.size b_1) ≤ (512 : Nat)) ∧
   ((ByteArray.size (⟨#[(120 : UInt8)]⟩ : ByteArray)) ≤ (1000000000 : Nat)) ∧
   ((Option.some (Ob.gh [AV.rf (0 : Nat) (0 : Nat)])) = (Option.some (Ob.gh [AV.rf (0 : Nat) (0 : Nat)]))) ∧ (
    ((List.length (YtfdecpfcphghlaaDoor.toksD (Prod.fst (YtfdecpfcphghlaaDoor.feedL (Array.toList (ByteArray.data (⟨#[(120 : UInt8)]⟩ : ByteArray))) b_1 w_1 e_1)))) ≤ LIM) →
    bcase (decide (((List.length (YtfdecpfcphghlaaDoor.toksD (Prod.fst (YtfdecpfcphghlaaDoor.feedL (Array.toList (ByteArray.data (⟨#[(120 : UInt8)]⟩ : ByteArray))) b_1 w_1 e_1)))) : Int) > (0 : Int))) (
     q (mkB false)) (
     bcase (!(((Prod.snd (Prod.snd (Prod.snd (YtfdecpfcphghlaaDoor.feedL (Array.toList (ByteArray.data (⟨#[(120 : UInt8)]⟩ : ByteArray))) b_1 w_1 e_1)))) == (0 : Int)) == (decide (i < (512 : Int))))) (
      q (mkB false)) (
      bcase ((Prod.snd (Prod.snd (Prod.snd (YtfdecpfcphghlaaDoor.feedL (Array.toList (ByteArray.data (⟨#[(120 : UInt8)]⟩ : ByteArray))) b_1 w_1 e_1)))) != (0 : Int)) (
       bcase ((Prod.snd (Prod.snd (Prod.snd (YtfdecpfcphghlaaDoor.feedL (Array.toList (ByteArray.data (⟨#[(120 : UInt8)]⟩ : ByteArray))) b_1 w_1 e_1)))) != (4 : Int)) (
        q (mkB false)) (
        FamNext st inv μ k ⟨[mkI IntKind.i64 N, AV.jk, AV.jk, AV.jk, AV.jk, AV.rf (0 : Nat) (0 : Nat), mkI IntKind.i64 (IntKind.wrap IntKind.i64 (i + (1 : Int))), AV.jk, AV.jk, AV.jk, AV.jk, AV.jk, AV.jk, AV.jk, AV.jk, AV.jk, AV.jk, AV.jk, AV.jk, AV.jk, AV.jk, AV.jk, AV.jk, AV.jk, AV.jk, AV.jk, AV.jk, AV.jk, AV.jk, AV.jk, AV.jk, AV.jk, AV.jk, AV.jk, AV.jk, AV.jk, AV.jk, AV.jk, AV.jk, AV.jk, AV.jk, AV.jk, AV.jk, AV.jk, AV.jk, AV.jk, AV.jk, AV.jk, AV.jk, AV.jk, AV.jk, AV.jk, AV.jk, AV.jk, AV.jk, AV.jk, AV.jk, AV.jk, AV.jk, AV.jk], [Ob.box [AV.vw (if (1 : Nat) < 2 then 1 else 3 + ((1 : Nat) - 2)) (List.length (bytesD (Prod.fst (Prod.snd (YtfdecpfcphghlaaDoor.feedL (Array.toList (ByteArray.data (⟨#[(120 : UInt8)]⟩ : ByteArray))) b_1 w_1 e_1))))), mkB (Prod.fst (Prod.snd (Prod.snd (YtfdecpfcphghlaaDoor.feedL (Array.toList (ByteArray.data (⟨#[(120 : UInt8)]⟩ : ByteArray))) b_1 w_1 e_1)))), mkI IntKind.i64 (Prod.snd (Prod.snd (Prod.snd (YtfdecpfcphghlaaDoor.feedL (Array.toList (ByteArray.data (⟨#[(120 : UInt8)]⟩ : ByteArray))) b_1 w_1 e_1))))], Ob.row (1 : Nat) (bytesD (Prod.fst (Prod.snd (YtfdecpfcphghlaaDoor.feedL (Array.toList (ByteArray.data (⟨#[(120 : UInt8)]⟩ : ByteArray))) b_1 w_1 e_1)))), Ob.gone, Ob.gone]⟩)) (
       FamNext st inv μ k ⟨[mkI IntKind.i64 N, AV.jk, AV.jk, AV.jk, AV.jk, AV.rf (0 : Nat) (0 : Nat), mkI IntKind.i64 (IntKind.wrap IntKind.i64 (i + (1 : Int))), AV.jk, AV.jk, AV.jk, AV.jk, AV.jk, AV.jk, AV.jk, AV.jk, AV.jk, AV.jk, AV.jk, AV.jk, AV.jk, AV.jk, AV.jk, AV.jk, AV.jk, AV.jk, AV.jk, AV.jk, AV.jk, AV.jk, AV.jk, AV.jk, AV.jk, AV.jk, AV.jk, AV.jk, AV.jk, AV.jk, AV.jk, AV.jk, AV.jk, AV.jk, AV.jk, AV.jk, AV.jk, AV.jk, AV.jk, AV.jk, AV.jk, AV.jk, AV.jk, AV.jk, AV.jk, AV.jk, AV.jk, AV.jk, AV.jk, AV.jk, AV.jk, AV.jk, AV.jk], [Ob.box [AV.vw (if (1 : Nat) < 2 then 1 else 3 + ((1 : Nat) - 2)) (List.length (bytesD (Prod.fst (Prod.snd (YtfdecpfcphghlaaDoor.feedL (Array.toList (ByteArray.data (⟨#[(120 : UInt8)]⟩ : ByteArray))) b_1 w_1 e_1))))), mkB (Prod.fst (Prod.snd (Prod.snd (YtfdecpfcphghlaaDoor.feedL (Array.toList (ByteArray.data (⟨#[(120 : UInt8)]⟩ : ByteArray))) b_1 w_1 e_1)))), mkI IntKind.i64 (Prod.snd (Prod.snd (Prod.snd (YtfdecpfcphghlaaDoor.feedL (Array.toList (ByteArray.data (⟨#[(120 : UInt8)]⟩ : ByteArray))) b_1 w_1 e_1))))], Ob.row (1 : Nat) (bytesD (Prod.fst (Prod.snd (YtfdecpfcphghlaaDoor.feedL (Array.toList (ByteArray.data (⟨#[(120 : UInt8)]⟩ : ByteArray))) b_1 w_1 e_1)))), Ob.gone, Ob.gone]⟩))))) (
   ∃ (b_1 : ByteArray),
   ∃ (w_1 : Bool),
   ∃ (e_1 : Int),
   ([Ob.box [AV.vw ((0 : Nat) + (1 : Nat)) (List.length b), mkB w, mkI IntKind.i64 e], Ob.row (1 : Nat) b, Ob.gh [AV.rf (0 : Nat) (0 : Nat)]] = [Ob.box [AV.vw (1 : Nat) (List.length (bytesD b_1)), mkB w_1, mkI IntKind.i64 e_1], Ob.row (1 : Nat) (bytesD b_1), Ob.gh [AV.rf (0 : Nat) (0 : Nat)]]) ∧
   ((Option.some (Ob.gh [AV.rf (0 : Nat) (0 : Nat)])) = (Option.some (Ob.gh [AV.rf (0 : Nat) (0 : Nat)]))) ∧
   bcase ((YtfdecpfcphghlaaDoor.heldI b_1 e_1) == N) (
    q (mkB true)) (
    bcase (decide (N > (512 : Int))) (
     ∃ (b_2 : ByteArray),
     ∃ (w_2 : Bool),
     ∃ (e_2 : Int),
     ([Ob.box [AV.vw ((0 : Nat) + (1 : Nat)) (List.length (bytesD b_1)), mkB w_1, mkI IntKind.i64 e_1], Ob.row (1 : Nat) (bytesD b_1), Ob.gh [AV.rf (0 : Nat) (0 : Nat)]] = [Ob.box [AV.vw (1 : Nat) (List.length (bytesD b_2)), mkB w_2, mkI IntKind.i64 e_2], Ob.row (1 : Nat) (bytesD b_2), Ob.gh [AV.rf (0 : Nat) (0 : Nat)]]) ∧
     ((Option.some (Ob.gh [AV.rf (0 : Nat) (0 : Nat)])) = (Option.some (Ob.gh [AV.rf (0 : Nat) (0 : Nat)]))) ∧
     q (mkB ((YtfdecpfcphghlaaDoor.heldI b_2 e_2) == (0 : Int)))) (
     q (mkB false))))) := by kernel_rfl

def F8 : List AV → Option (Prop × AV) := fun al => match al with
  | [.d (.v (.int .i64 n)), .d (.v (.bool w))] => some (True, mkB true)
  | _ => none
/-- What is held behind so many signs. -/
def longI (N i : Nat) (b : ByteArray) (e : Int) : Prop := i ≤ N ∧ ((i ≤ 512 ∧ b.size = i ∧ e = 0) ∨ (512 < i ∧ b.size = 512 ∧ e = 4))
set_option maxRecDepth 8000 in
theorem c8 : PSound Tryd.prog 8 (detE F8) := by
  refine det_fn (c := Tryd.b8) mixed Tryd.K_ok gL Tryd.func8 rfl rfl Tryd.call8 fun al p r q hF hp hq => ?_
  unfold F8 at hF; split at hF <;> cases hF
  rename_i n within
  obtain ⟨N, hN, eN⟩ := umod n 600 (by decide) (by decide)
  have eN : IntKind.i64.wrap (Int.tmod (IntKind.u64.wrap n) 600) = (N : Int) := eN
  have lp : ∀ (b0 : ByteArray) (w0 : Bool) (s0 : S), b0.size = 0 → s0.le (st8 N (bytesD b0) w0 0 (0 : Nat)) → ALoop (aCode Tryd.K GL (cAt [1, 1, 1, 1, 1, 0, 1, 0, 0] Tryd.b8)) (r8_k0 q) s0 := by
    intro b0 w0 s0 hb0 hs0
    refine ALoop.introM [] m8 (fun x : Nat × ByteArray × Bool × Int => st8 N (bytesD x.2.1) x.2.2.1 x.2.2.2 x.1) (fun x => longI N x.1 x.2.1 x.2.2.2) (fun x => N - x.1) ⟨[], (0, b0, w0, 0), hs0, ⟨Nat.zero_le _, .inl ⟨Nat.zero_le _, hb0, rfl⟩⟩⟩ fun x ⟨hx1, hx2⟩ => ?_
    obtain ⟨i, b, w, e⟩ := x
    simp only at hx1 hx2
    have hb : b.size ≤ 512 := by omega
    refine cast (r8_b _ _ _ _ N (bytesD b) w e i q).symm (bcase_dec (fun hlt => ?_) (fun hlt => ?_))
    · have hlt : i < N := by omega
      refine ⟨b, w, e, rfl, hb, by decide, rfl, ?_⟩
      rw [feed_x]
      have hw := wrap_succ hlt (show N ≤ LIM by unfold LIM; omega)
      rcases hx2 with ⟨h1, h2, rfl⟩ | ⟨h1, h2, rfl⟩
      · rw [if_neg (by simp)]
        by_cases h5 : i = 512
        · rw [if_pos (by omega)]
          refine fun _ => bcaseF (decide_eq_false (by simp [toksD])) (bcaseF (by rw [decide_eq_false (by omega)]; rfl) (bcaseT rfl (bcaseF rfl ?_)))
          refine .mk [] (i + 1, b, w, 4) ?_ ⟨hlt, .inr ⟨by omega, by show b.size = 512; omega, rfl⟩⟩ (show N - (i + 1) < N - i by omega)
          simp [S.le, sealAll, leL, leO, jks, st8, S.fits, fitsL, AV.fits, Ob.fits, hw]
        · rw [if_neg (by omega)]
          refine fun _ => bcaseF (decide_eq_false (by simp [toksD])) (bcaseF (by rw [decide_eq_true (by omega)]; rfl) (bcaseF rfl ?_))
          refine .mk [] (i + 1, b.push 120, w, 0) ?_ ⟨hlt, .inl ⟨by omega, by show (b.push 120).size = i + 1; rw [size_push]; omega, rfl⟩⟩ (show N - (i + 1) < N - i by omega)
          simp [S.le, sealAll, leL, leO, jks, st8, S.fits, fitsL, AV.fits, Ob.fits, hw]
      · rw [if_pos (by simp)]
        refine fun _ => bcaseF (decide_eq_false (by simp [toksD])) (bcaseF (by rw [decide_eq_false (by omega)]; rfl) (bcaseT rfl (bcaseF rfl ?_)))
        refine .mk [] (i + 1, b, w, 4) ?_ ⟨hlt, .inr ⟨by omega, by show b.size = 512; omega, rfl⟩⟩ (show N - (i + 1) < N - i by omega)
        simp [S.le, sealAll, leL, leO, jks, st8, S.fits, fitsL, AV.fits, Ob.fits, hw]
    · have hlt : i = N := by omega
      refine ⟨b, w, e, rfl, rfl, ?_⟩
      rcases hx2 with ⟨h1, h2, rfl⟩ | ⟨h1, h2, rfl⟩
      · exact bcaseT (by simp [heldI, h2, hlt]) hq
      · refine bcaseF (by simp [heldI]; omega) (bcaseT (decide_eq_true (by omega)) ⟨b, w, 4, rfl, rfl, ?_⟩)
        exact hq
  refine cast (r8 n within q).symm ⟨trivial, fun h => absurd h (by decide), rfl, ?_⟩
  rw [eN]
  refine bcase_mk (fun h => ⟨⟨#[]⟩, false, 0, rfl, by decide, by decide, rfl, ?_⟩) (fun h => ?_)
  · refine lp ⟨#[]⟩ true _ rfl ?_
    have fl : feedL [60] ⟨#[]⟩ false 0 = ([], ⟨#[]⟩, true, 0) := feed_lt
    simp [fl, S.le, sealAll, leL, leO, jks, st8, S.fits, fitsL, AV.fits, Ob.fits]
  · refine lp ⟨#[]⟩ false _ rfl ?_
    simp [S.le, sealAll, leL, leO, jks, st8, S.fits, fitsL, AV.fits, Ob.fits, bytesD]
theorem h8 : ∀ as', TyArgs Tryd.prog Tryd.f8.params.toList as' → ∃ p, F8 as' = some (p, mkB true) ∧ p := by
  intro as' h
  rw [Tryd.params8] at h
  obtain ⟨a, b, rfl, ha, hb⟩ := tyargs2 h
  obtain ⟨x, rfl, _⟩ := arg_int Tryd.underlying3 ha
  obtain ⟨y, rfl⟩ := arg_bool Tryd.underlying4 hb
  exact ⟨_, rfl, trivial⟩
end Go.Proofs.YtfdecpfcphghlaaDoor
