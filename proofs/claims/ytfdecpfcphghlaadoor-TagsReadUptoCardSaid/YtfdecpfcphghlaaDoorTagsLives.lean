import Derived.Test.YtfdecpfcphghlaaDoorTagsLaw
set_option linter.unusedSimpArgs false
set_option linter.unusedVariables false
namespace Go.Proofs.YtfdecpfcphghlaaDoor
open Go Go.AM Go.RowKit
attribute [local irreducible] aCode bcase

def sP1 : ByteArray := ⟨#[60, 97, 32, 98, 61]⟩
def sP2 : ByteArray := ⟨#[39, 49, 39, 47, 62]⟩
def sOne : ByteArray := ⟨#[49]⟩
noncomputable abbrev G9 : List (FuncId × En) := [(11, .full (newE E11)), (12, .ref (frameE E12)), (16, .ref (frameE E16))]
theorem r9 (q : AV → Prop) :
  (aCode Tryd.K G9 Tryd.b9 (kRet Tryd.K Tryd.f9.results.toList q) ⟨[] ++ List.replicate (Tryd.f9.ntmps) .jk, []⟩) = (
  (([] : List AV) = []) ∧ (
   ∃ (b : ByteArray),
   ∃ (w : Bool),
   ∃ (e : Int),
   ([Ob.box [AV.vw ((0 : Nat) + (1 : Nat)) (0 : Nat), mkB false, mkI IntKind.i64 (0 : Int)], Ob.row (1 : Nat) [], Ob.gh [AV.rf (0 : Nat) (0 : Nat)]] = [Ob.box [AV.vw (1 : Nat) (List.length (bytesD b)), mkB w, mkI IntKind.i64 e], Ob.row (1 : Nat) (bytesD b), Ob.gh [AV.rf (0 : Nat) (0 : Nat)]]) ∧
   ((ByteArray.size b) ≤ (512 : Nat)) ∧
   ((ByteArray.size YtfdecpfcphghlaaDoor.sP1) ≤ (1000000000 : Nat)) ∧
   ((Option.some (Ob.gh [AV.rf (0 : Nat) (0 : Nat)])) = (Option.some (Ob.gh [AV.rf (0 : Nat) (0 : Nat)]))) ∧ (
    ∃ (b_1 : ByteArray),
    ∃ (w_1 : Bool),
    ∃ (e_1 : Int),
    ([Ob.box [AV.vw ((0 : Nat) + (1 : Nat)) (List.length (bytesD (Prod.fst (Prod.snd (YtfdecpfcphghlaaDoor.feedL (Array.toList (ByteArray.data YtfdecpfcphghlaaDoor.sP1)) b w e))))), mkB (Prod.fst (Prod.snd (Prod.snd (YtfdecpfcphghlaaDoor.feedL (Array.toList (ByteArray.data YtfdecpfcphghlaaDoor.sP1)) b w e)))), mkI IntKind.i64 (Prod.snd (Prod.snd (Prod.snd (YtfdecpfcphghlaaDoor.feedL (Array.toList (ByteArray.data YtfdecpfcphghlaaDoor.sP1)) b w e))))], Ob.row (1 : Nat) (bytesD (Prod.fst (Prod.snd (YtfdecpfcphghlaaDoor.feedL (Array.toList (ByteArray.data YtfdecpfcphghlaaDoor.sP1)) b w e)))), Ob.gh [AV.rf (0 : Nat) (0 : Nat)]] = [Ob.box [AV.vw (1 : Nat) (List.length (bytesD b_1)), mkB w_1, mkI IntKind.i64 e_1], Ob.row (1 : Nat) (bytesD b_1), Ob.gh [AV.rf (0 : Nat) (0 : Nat)]]) ∧
    ((ByteArray.size b_1) ≤ (512 : Nat)) ∧
    ((ByteArray.size YtfdecpfcphghlaaDoor.sP2) ≤ (1000000000 : Nat)) ∧
    ((Option.some (Ob.gh [AV.rf (0 : Nat) (0 : Nat)])) = (Option.some (Ob.gh [AV.rf (0 : Nat) (0 : Nat)]))) ∧ (
     ((List.length (YtfdecpfcphghlaaDoor.toksD (Prod.fst (YtfdecpfcphghlaaDoor.feedL (Array.toList (ByteArray.data YtfdecpfcphghlaaDoor.sP1)) b w e)))) ≤ LIM) →
     bcase (((List.length (YtfdecpfcphghlaaDoor.toksD (Prod.fst (YtfdecpfcphghlaaDoor.feedL (Array.toList (ByteArray.data YtfdecpfcphghlaaDoor.sP1)) b w e)))) : Int) == (0 : Int)) (
      bcase ((Prod.snd (Prod.snd (Prod.snd (YtfdecpfcphghlaaDoor.feedL (Array.toList (ByteArray.data YtfdecpfcphghlaaDoor.sP1)) b w e)))) == (0 : Int)) (
       bcase ((Prod.snd (Prod.snd (Prod.snd (YtfdecpfcphghlaaDoor.feedL (Array.toList (ByteArray.data YtfdecpfcphghlaaDoor.sP2)) b_1 w_1 e_1)))) == (0 : Int)) (
        ((List.length (YtfdecpfcphghlaaDoor.toksD (Prod.fst (YtfdecpfcphghlaaDoor.feedL (Array.toList (ByteArray.data YtfdecpfcphghlaaDoor.sP2)) b_1 w_1 e_1)))) ≤ LIM) →
        bcase (((List.length (YtfdecpfcphghlaaDoor.toksD (Prod.fst (YtfdecpfcphghlaaDoor.feedL (Array.toList (ByteArray.data YtfdecpfcphghlaaDoor.sP2)) b_1 w_1 e_1)))) : Int) == (2 : Int)) (
         (((0 : Int) ≤ (0 : Int)) ∧ ((0 : Int) < ((List.length (YtfdecpfcphghlaaDoor.toksD (Prod.fst (YtfdecpfcphghlaaDoor.feedL (Array.toList (ByteArray.data YtfdecpfcphghlaaDoor.sP2)) b_1 w_1 e_1)))) : Int))) ∧
         ((List.length (List.getD (YtfdecpfcphghlaaDoor.toksD (Prod.fst (YtfdecpfcphghlaaDoor.feedL (Array.toList (ByteArray.data YtfdecpfcphghlaaDoor.sP2)) b_1 w_1 e_1))) (Int.toNat (0 : Int)) [])) = 4) ∧
         ((1 : Nat) ≤ (List.length (List.drop (0 : Nat) (List.getD (YtfdecpfcphghlaaDoor.toksD (Prod.fst (YtfdecpfcphghlaaDoor.feedL (Array.toList (ByteArray.data YtfdecpfcphghlaaDoor.sP2)) b_1 w_1 e_1))) (Int.toNat (0 : Int)) [])))) ∧
         ((List.getD (List.drop (0 : Nat) (List.getD (YtfdecpfcphghlaaDoor.toksD (Prod.fst (YtfdecpfcphghlaaDoor.feedL (Array.toList (ByteArray.data YtfdecpfcphghlaaDoor.sP2)) b_1 w_1 e_1))) (Int.toNat (0 : Int)) [])) (0 : Nat) d0) = (D.v (Value.int IntKind.i64 (intD (List.getD (List.drop (0 : Nat) (List.getD (YtfdecpfcphghlaaDoor.toksD (Prod.fst (YtfdecpfcphghlaaDoor.feedL (Array.toList (ByteArray.data YtfdecpfcphghlaaDoor.sP2)) b_1 w_1 e_1))) (Int.toNat (0 : Int)) [])) (0 : Nat) d0))))) ∧
         bcase ((intD (List.getD (List.drop (0 : Nat) (List.getD (YtfdecpfcphghlaaDoor.toksD (Prod.fst (YtfdecpfcphghlaaDoor.feedL (Array.toList (ByteArray.data YtfdecpfcphghlaaDoor.sP2)) b_1 w_1 e_1))) (Int.toNat (0 : Int)) [])) (0 : Nat) d0)) == (1 : Int)) (
          (((0 : Int) ≤ (0 : Int)) ∧ ((0 : Int) < ((List.length (YtfdecpfcphghlaaDoor.toksD (Prod.fst (YtfdecpfcphghlaaDoor.feedL (Array.toList (ByteArray.data YtfdecpfcphghlaaDoor.sP2)) b_1 w_1 e_1)))) : Int))) ∧
          ((List.length (List.getD (YtfdecpfcphghlaaDoor.toksD (Prod.fst (YtfdecpfcphghlaaDoor.feedL (Array.toList (ByteArray.data YtfdecpfcphghlaaDoor.sP2)) b_1 w_1 e_1))) (Int.toNat (0 : Int)) [])) = 4) ∧
          ((1 : Nat) ≤ (List.length (List.drop (2 : Nat) (List.getD (YtfdecpfcphghlaaDoor.toksD (Prod.fst (YtfdecpfcphghlaaDoor.feedL (Array.toList (ByteArray.data YtfdecpfcphghlaaDoor.sP2)) b_1 w_1 e_1))) (Int.toNat (0 : Int)) [])))) ∧
          ((List.getD (List.drop (2 : Nat) (List.getD (YtfdecpfcphghlaaDoor.toksD (Prod.fst (YtfdecpfcphghlaaDoor.feedL (Array.toList (ByteArray.data YtfdecpfcphghlaaDoor.sP2)) b_1 w_1 e_1))) (Int.toNat (0 : Int)) [])) (0 : Nat) d0) = (D.sl (slD (List.getD (List.drop (2 : Nat) (List.getD (YtfdecpfcphghlaaDoor.toksD (Prod.fst (YtfdecpfcphghlaaDoor.feedL (Array.toList (ByteArray.data YtfdecpfcphghlaaDoor.sP2)) b_1 w_1 e_1))) (Int.toNat (0 : Int)) [])) (0 : Nat) d0)))) ∧
          (((0 : Int) ≤ (0 : Int)) ∧ ((0 : Int) < ((List.length (slD (List.getD (List.drop (2 : Nat) (List.getD (YtfdecpfcphghlaaDoor.toksD (Prod.fst (YtfdecpfcphghlaaDoor.feedL (Array.toList (ByteArray.data YtfdecpfcphghlaaDoor.sP2)) b_1 w_1 e_1))) (Int.toNat (0 : Int)) [])) (0 : Nat) d0))) : Int))) ∧
          ((List.length (List.getD (slD (List.getD (List.drop (2 : Nat) (List.getD (YtfdecpfcphghlaaDoor.toksD (Prod.fst (YtfdecpfcphghlaaDoor.feedL (Array.toList (ByteArray.data YtfdecpfcphghlaaDoor.sP2)) b_1 w_1 e_1))) (Int.toNat (0 : Int)) [])) (0 : Nat) d0)) (Int.toNat (0 : Int)) [])) = 2) ∧
          ((1 : Nat) ≤ (List.length (List.drop (1 : Nat) (List.getD (slD (List.getD (List.drop (2 : Nat) (List.getD (YtfdecpfcphghlaaDoor.toksD (Prod.fst (YtfdecpfcphghlaaDoor.feedL (Array.toList (ByteArray.data YtfdecpfcphghlaaDoor.sP2)) b_1 w_1 e_1))) (Int.toNat (0 : Int)) [])) (0 : Nat) d0)) (Int.toNat (0 : Int)) [])))) ∧
          ((List.getD (List.drop (1 : Nat) (List.getD (slD (List.getD (List.drop (2 : Nat) (List.getD (YtfdecpfcphghlaaDoor.toksD (Prod.fst (YtfdecpfcphghlaaDoor.feedL (Array.toList (ByteArray.data YtfdecpfcphghlaaDoor.sP2)) b_1 w_1 e_1))) (Int.toNat (0 : Int)) [])) (0 : Nat) d0)) (Int.toNat (0 : Int)) [])) (0 : Nat) d0) = (D.v (Value.string (strD (List.getD (List.drop (1 : Nat) (List.getD (slD (List.getD (List.drop (2 : Nat) (List.getD (YtfdecpfcphghlaaDoor.toksD (Prod.fst (YtfdecpfcphghlaaDoor.feedL (Array.toList (ByteArray.data YtfdecpfcphghlaaDoor.sP2)) b_1 w_1 e_1))) (Int.toNat (0 : Int)) [])) (0 : Nat) d0)) (Int.toNat (0 : Int)) [])) (0 : Nat) d0))))) ∧
          bcase (decide ((strD (List.getD (List.drop (1 : Nat) (List.getD (slD (List.getD (List.drop (2 : Nat) (List.getD (YtfdecpfcphghlaaDoor.toksD (Prod.fst (YtfdecpfcphghlaaDoor.feedL (Array.toList (ByteArray.data YtfdecpfcphghlaaDoor.sP2)) b_1 w_1 e_1))) (Int.toNat (0 : Int)) [])) (0 : Nat) d0)) (Int.toNat (0 : Int)) [])) (0 : Nat) d0)) = YtfdecpfcphghlaaDoor.sOne)) (
           (((0 : Int) ≤ (1 : Int)) ∧ ((1 : Int) < ((List.length (YtfdecpfcphghlaaDoor.toksD (Prod.fst (YtfdecpfcphghlaaDoor.feedL (Array.toList (ByteArray.data YtfdecpfcphghlaaDoor.sP2)) b_1 w_1 e_1)))) : Int))) ∧
           ((List.length (List.getD (YtfdecpfcphghlaaDoor.toksD (Prod.fst (YtfdecpfcphghlaaDoor.feedL (Array.toList (ByteArray.data YtfdecpfcphghlaaDoor.sP2)) b_1 w_1 e_1))) (Int.toNat (1 : Int)) [])) = 4) ∧
           ((1 : Nat) ≤ (List.length (List.drop (0 : Nat) (List.getD (YtfdecpfcphghlaaDoor.toksD (Prod.fst (YtfdecpfcphghlaaDoor.feedL (Array.toList (ByteArray.data YtfdecpfcphghlaaDoor.sP2)) b_1 w_1 e_1))) (Int.toNat (1 : Int)) [])))) ∧
           ((List.getD (List.drop (0 : Nat) (List.getD (YtfdecpfcphghlaaDoor.toksD (Prod.fst (YtfdecpfcphghlaaDoor.feedL (Array.toList (ByteArray.data YtfdecpfcphghlaaDoor.sP2)) b_1 w_1 e_1))) (Int.toNat (1 : Int)) [])) (0 : Nat) d0) = (D.v (Value.int IntKind.i64 (intD (List.getD (List.drop (0 : Nat) (List.getD (YtfdecpfcphghlaaDoor.toksD (Prod.fst (YtfdecpfcphghlaaDoor.feedL (Array.toList (ByteArray.data YtfdecpfcphghlaaDoor.sP2)) b_1 w_1 e_1))) (Int.toNat (1 : Int)) [])) (0 : Nat) d0))))) ∧
           bcase ((intD (List.getD (List.drop (0 : Nat) (List.getD (YtfdecpfcphghlaaDoor.toksD (Prod.fst (YtfdecpfcphghlaaDoor.feedL (Array.toList (ByteArray.data YtfdecpfcphghlaaDoor.sP2)) b_1 w_1 e_1))) (Int.toNat (1 : Int)) [])) (0 : Nat) d0)) == (2 : Int)) (
            ∃ (b_2 : ByteArray),
            ∃ (w_2 : Bool),
            ∃ (e_2 : Int),
            ([Ob.box [AV.vw ((0 : Nat) + (1 : Nat)) (List.length (bytesD (Prod.fst (Prod.snd (YtfdecpfcphghlaaDoor.feedL (Array.toList (ByteArray.data YtfdecpfcphghlaaDoor.sP2)) b_1 w_1 e_1))))), mkB (Prod.fst (Prod.snd (Prod.snd (YtfdecpfcphghlaaDoor.feedL (Array.toList (ByteArray.data YtfdecpfcphghlaaDoor.sP2)) b_1 w_1 e_1)))), mkI IntKind.i64 (Prod.snd (Prod.snd (Prod.snd (YtfdecpfcphghlaaDoor.feedL (Array.toList (ByteArray.data YtfdecpfcphghlaaDoor.sP2)) b_1 w_1 e_1))))], Ob.row (1 : Nat) (bytesD (Prod.fst (Prod.snd (YtfdecpfcphghlaaDoor.feedL (Array.toList (ByteArray.data YtfdecpfcphghlaaDoor.sP2)) b_1 w_1 e_1)))), Ob.gh [AV.rf (0 : Nat) (0 : Nat)]] = [Ob.box [AV.vw (1 : Nat) (List.length (bytesD b_2)), mkB w_2, mkI IntKind.i64 e_2], Ob.row (1 : Nat) (bytesD b_2), Ob.gh [AV.rf (0 : Nat) (0 : Nat)]]) ∧
            ((Option.some (Ob.gh [AV.rf (0 : Nat) (0 : Nat)])) = (Option.some (Ob.gh [AV.rf (0 : Nat) (0 : Nat)]))) ∧
            q (mkB ((YtfdecpfcphghlaaDoor.heldI b_2 e_2) == (0 : Int)))) (
            q (mkB false))) (
           q (mkB false))) (
          q (mkB false))) (
         q (mkB false))) (
        q (mkB false))) (
       q (mkB false))) (
      q (mkB false)))))) := by kernel_rfl

def sHeld : ByteArray := ⟨#[97, 32, 98, 61]⟩
def sA : ByteArray := ⟨#[97]⟩
def sB : ByteArray := ⟨#[98]⟩
def toks2 : List Tok := [⟨1, sA, [(sB, sOne)], ⟨#[]⟩⟩, ⟨2, sA, [], ⟨#[]⟩⟩]
theorem feed1 : feedL sP1.data.toList ⟨#[]⟩ false 0 = ([], sHeld, true, 0) := by decide +kernel
theorem feed2 : feedL sP2.data.toList sHeld true 0 = (toks2, ⟨#[]⟩, false, 0) := by decide +kernel
def F9 : List AV → Option (Prop × AV) := fun al => match al with
  | [] => some (True, mkB true)
  | _ => none
theorem c9 : PSound Tryd.prog 9 (detE F9) := by
  refine det_fn (c := Tryd.b9) mixed Tryd.K_ok (gsound_full c11 (gsound_ref (RSound.frame c12) (gsound_ref (RSound.frame c16) gsound_nil))) Tryd.func9 rfl rfl Tryd.call9 fun al p r q hF hp hq => ?_
  unfold F9 at hF; split at hF <;> cases hF
  refine cast (r9 q).symm ⟨rfl, ⟨#[]⟩, false, 0, rfl, by decide, by decide, rfl, ?_⟩
  rw [feed1]
  refine ⟨sHeld, true, 0, rfl, by decide, by decide, rfl, fun _ => bcaseT rfl (bcaseT rfl ?_)⟩
  rw [feed2]
  refine bcaseT rfl fun _ => bcaseT rfl ⟨by decide, rfl, by decide, rfl, bcaseT rfl ⟨by decide, rfl, by decide, rfl, by decide, rfl, by decide, rfl, bcaseT (by decide +kernel) ⟨by decide, rfl, by decide, rfl, bcaseT rfl ⟨⟨#[]⟩, false, 0, rfl, rfl, hq⟩⟩⟩⟩

end Go.Proofs.YtfdecpfcphghlaaDoor
