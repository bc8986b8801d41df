import Derived.Test.YtchpfeblinnoiaaGreatDoorTagsBegin
set_option linter.unusedSimpArgs false
set_option linter.unusedVariables false
namespace Go.Proofs.YtchpfeblinnoiaaGreatDoor
open Go Go.AM Go.RowKit
def sSp : ByteArray := ⟨#[32]⟩
noncomputable abbrev G33 : List (FuncId × En) := [(97, .det F47), (56, .det F46), (98, .det F48), (99, .det F49), (100, .ref (frameV E50))]
noncomputable def r33_k0 (q : AV → Prop) : Kont := kBlk (0 : Nat) (kSeq (aCode Tryz.K G33 (cAt [1, 0, 1, 1, 1, 1, 1, 1] Tryz.b83) (kRet Tryz.K (Array.toList (Func.results Tryz.f83)) q)) (kRet Tryz.K (Array.toList (Func.results Tryz.f83)) q))
theorem r33 (s : ByteArray) (q : AV → Prop) :
  (aCode Tryz.K G33 Tryz.b83 (kRet Tryz.K Tryz.f83.results.toList q) ⟨[mkS s] ++ List.replicate (Tryz.f83.ntmps - 1) .jk, []⟩) = (
  (((ByteArray.size s) + (ByteArray.size sSp)) ≤ LIM) ∧
  ((sAny = sAny) ∧ ((ByteArray.size (s ++ sSp)) ≤ LIM)) ∧
  (((0 : Int) ≤ (anyI (s ++ sSp))) ∧ ((anyI (s ++ sSp)) ≤ ((ByteArray.size s) : Int))) ∧
  ((ByteArray.size (ByteArray.extract s (0 : Nat) (Int.toNat (anyI (s ++ sSp))))) ≤ LIM) ∧
  bcase (!(nameB (ByteArray.extract s (0 : Nat) (Int.toNat (anyI (s ++ sSp)))))) (
   q (AV.tp [AV.d (.sl []), mkI .i64 3])) (
   (((0 : Int) ≤ (anyI (s ++ sSp))) ∧ ((anyI (s ++ sSp)) ≤ ((ByteArray.size s) : Int))) ∧
   ALoop (aCode Tryz.K G33 (cAt [1, 0, 1, 1, 1, 1, 1, 0, 0, 0] Tryz.b83)) (r33_k0 q) ⟨[mkS (ByteArray.extract s (Int.toNat (anyI (s ++ sSp))) (ByteArray.size s)), AV.jk, AV.nl, mkI .i64 0, mkI .i64 (anyI (s ++ sSp)), AV.rf 0 0, AV.jk, AV.jk, AV.jk, AV.jk, AV.jk, mkS s, mkS (s ++ sSp), mkI .i64 (anyI (s ++ sSp)), mkS s, mkI .i64 (anyI (s ++ sSp)), mkS (ByteArray.extract s (0 : Nat) (Int.toNat (anyI (s ++ sSp)))), AV.ag [mkI .i64 1, mkS (ByteArray.extract s (0 : Nat) (Int.toNat (anyI (s ++ sSp)))), AV.nl, mkS ⟨#[]⟩], AV.rf 0 (0 + 1), mkS (ByteArray.extract s (0 : Nat) (Int.toNat (anyI (s ++ sSp)))), mkB (nameB (ByteArray.extract s (0 : Nat) (Int.toNat (anyI (s ++ sSp))))), mkB false, mkS s, mkI .i64 (anyI (s ++ sSp)), mkS (ByteArray.extract s (Int.toNat (anyI (s ++ sSp))) (ByteArray.size s)), AV.jk, AV.jk, AV.jk, AV.jk, AV.jk, AV.jk, AV.jk, AV.jk, AV.jk, AV.jk, AV.jk, AV.jk, AV.jk, AV.jk, AV.jk, AV.jk, AV.jk, AV.jk, AV.jk, AV.jk, AV.jk, AV.jk, AV.jk, AV.jk, AV.jk, AV.jk, AV.jk, AV.jk, AV.jk, AV.jk, AV.jk, AV.jk, AV.jk, AV.jk, AV.jk, AV.jk, AV.jk, AV.jk, AV.jk, AV.jk, AV.jk, AV.jk, AV.jk, AV.jk, AV.jk, AV.jk, AV.jk, AV.jk, AV.jk], [Ob.box [mkI .i64 1, mkS (ByteArray.extract s (0 : Nat) (Int.toNat (anyI (s ++ sSp)))), AV.nl, mkS ⟨#[]⟩]]⟩)) := by kernel_rfl
def st33 (s name : ByteArray) (es : List (List D)) : S := ⟨[mkS s, .jk, .jk, .jk, .jk, .rf 0 0] ++ jks 68, [.box [mkI .i64 1, mkS name, .vw 1 es.length, mkS ⟨#[]⟩], .row 2 es]⟩
def m33 : List Bool := maskOf (st33 ⟨#[]⟩ ⟨#[]⟩ [])
theorem r33_b {ι : Type} (st : ι → S) (inv : ι → Prop) (μ : ι → Nat) (k : ι) (s name : ByteArray) (es : List (List D)) (q : AV → Prop) :
  (aCode Tryz.K G33 (cAt [1, 0, 1, 1, 1, 1, 1, 0, 0, 0] Tryz.b83) (kFamM [] m33 st inv μ k (r33_k0 q)) (st33 s name es)) = (
  (sBlanks = sBlanks) ∧
  bcase (decide ((trimLB s) = ⟨#[]⟩)) (
   q (AV.tp [AV.d (.sl [[D.v (.int IntKind.i64 (1 : Int)), D.v (.string name), D.sl (List.take (List.length es) es), D.v (.string ⟨#[]⟩)]]), mkI .i64 0])) (
   bcase (decide ((trimLB s) = sSlash)) (
    q (AV.tp [AV.d (.sl [[D.v (.int IntKind.i64 (1 : Int)), D.v (.string name), D.sl (List.take (List.length es) es), D.v (.string ⟨#[]⟩)], [D.v (.int IntKind.i64 (2 : Int)), D.v (.string name), D.sl [], D.v (.string ⟨#[]⟩)]]), mkI .i64 0])) (
    ((ByteArray.size (trimLB s)) ≤ LIM) ∧ (
     ∃ (l : List (Prod ByteArray ByteArray)),
     ∃ (a1 : ByteArray),
     ∃ (a2 : ByteArray),
     ([AV.vw 0 (List.length es), AV.fn (Fn.func 101) [] [AV.rf (0 + 1) 0]] = [AV.vw 0 (List.length l), AV.fn (Fn.func 101) [] [AV.rf 1 0]]) ∧
     ([Ob.row 2 es, Ob.box [mkS (Prod.fst (Prod.fst (attrT (trimLB s)))), mkS (Prod.snd (Prod.fst (attrT (trimLB s))))], Ob.gh [AV.vw 0 (List.length es), AV.rf (0 + 1) 0]] = [Ob.row 2 (List.map attrD l), Ob.box [mkS a1, mkS a2], Ob.gh [AV.vw 0 (List.length l), AV.rf 1 0]]) ∧
     ((List.length l) ≤ (100 : Nat)) ∧
     ((Option.some (Ob.gh [AV.vw 0 (List.length l), AV.rf 1 0])) = (Option.some (Ob.gh [AV.vw 0 (List.length es), AV.rf (0 + 1) 0]))) ∧
     ((List.length es) = (List.length (List.map attrD l))) ∧ (
      ((ByteArray.size (trimLB s)) ≤ LIM) →
      ((ByteArray.size s) ≤ LIM) →
      bcase (((ByteArray.size (trimLB s)) : Int) == ((ByteArray.size s) : Int)) (
       q (AV.tp [AV.d (.sl []), mkI .i64 3])) (
       bcase (!(Prod.snd (Prod.snd (attrT (trimLB s))))) (
        q (AV.tp [AV.d (.sl []), mkI .i64 3])) (
        bcase (anyA l a1) (
         q (AV.tp [AV.d (.sl []), mkI .i64 3])) (
         bcase (((List.length es) : Int) == (6 : Int)) (
          q (AV.tp [AV.d (.sl []), mkI .i64 3])) (
          (∀ (c : List D), (c ∈ [[D.v (.string a1), D.v (.string a2)]]) → (List.length c) = 2) ∧
          ((List.length es) = (List.length (List.map attrD l))) ∧
          (((List.length (List.map attrD l)) + 1) ≤ LIM) ∧
          FamNext st inv μ k ⟨[mkS (Prod.fst (Prod.snd (attrT (trimLB s)))), AV.jk, AV.jk, AV.jk, AV.jk, AV.rf 0 0, AV.jk, AV.jk, AV.jk, AV.jk, AV.jk, AV.jk, AV.jk, AV.jk, AV.jk, AV.jk, AV.jk, AV.jk, AV.jk, AV.jk, AV.jk, AV.jk, AV.jk, AV.jk, AV.jk, AV.jk, AV.jk, AV.jk, AV.jk, AV.jk, AV.jk, AV.jk, AV.jk, AV.jk, AV.jk, AV.jk, AV.jk, AV.jk, AV.jk, AV.jk, AV.jk, AV.jk, AV.jk, AV.jk, AV.jk, AV.jk, AV.jk, AV.jk, AV.jk, AV.jk, AV.jk, AV.jk, AV.jk, AV.jk, AV.jk, AV.jk, AV.jk, AV.jk, AV.jk, AV.jk, AV.jk, AV.jk, AV.jk, AV.jk, AV.jk, AV.jk, AV.jk, AV.jk, AV.jk, AV.jk, AV.jk, AV.jk, AV.jk, AV.jk], [Ob.box [mkI .i64 1, mkS name, AV.vw 1 ((List.length (List.map attrD l)) + 1), mkS ⟨#[]⟩], Ob.row 2 ((List.map attrD l) ++ [[D.v (.string a1), D.v (.string a2)]]), Ob.box [mkS a1, mkS a2], Ob.gone, Ob.gone, Ob.row 2 [[D.v (.string a1), D.v (.string a2)]]]⟩))))))))) := by kernel_rfl
def beginL (name : ByteArray) : Nat → ByteArray → List (ByteArray × ByteArray) → List Tok × Int
  | 0, _, _ => ([], 3)
  | f + 1, s, l =>
    if trimLB s = ⟨#[]⟩ then ([⟨1, name, l, ⟨#[]⟩⟩], 0)
    else if trimLB s = sSlash then ([⟨1, name, l, ⟨#[]⟩⟩, ⟨2, name, [], ⟨#[]⟩⟩], 0)
    else if (trimLB s).size = s.size then ([], 3)
    else if (attrT (trimLB s)).2.2 = false then ([], 3)
    else if anyA l (attrT (trimLB s)).1.1 = true then ([], 3)
    else if l.length = 6 then ([], 3)
    else beginL name f (attrT (trimLB s)).2.1 (l ++ [(attrT (trimLB s)).1])
def nameN (s : ByteArray) : Nat := (anyI (s ++ sSp)).toNat
def beginT (s : ByteArray) : List Tok × Int := if nameB (s.extract 0 (nameN s)) = true then beginL (s.extract 0 (nameN s)) 8 (s.extract (nameN s) s.size) [] else ([], 3)
theorem indexAny_sp : ∀ l : List UInt8, 0 ≤ Lib.indexAny (l ++ [32]) sAny.data.toList ∧ Lib.indexAny (l ++ [32]) sAny.data.toList ≤ l.length
  | [] => by decide
  | x :: l => by
    have ih := indexAny_sp l
    simp only [List.cons_append, Lib.indexAny, List.length_cons]
    split
    · omega
    · split
      · rename_i h; have := beq_iff_eq.1 h; omega
      · omega
theorem anyI_sp (s : ByteArray) : 0 ≤ anyI (s ++ sSp) ∧ anyI (s ++ sSp) ≤ (s.size : Int) := by
  have h := indexAny_sp s.data.toList
  have e : (s ++ sSp).data.toList = s.data.toList ++ [32] := by rw [ByteArray.data_append, Array.toList_append]; rfl
  have e2 : s.data.toList.length = s.size := Array.length_toList
  unfold anyI
  rw [e]; rw [e2] at h; exact h
theorem valueT_le (s : ByteArray) : (valueT s).2.1.size ≤ s.size := by
  unfold valueT
  split
  · exact Nat.zero_le _
  · split
    · split
      · have := cutD_le (valueC s) (s.extract 1 s.size)
        rw [ByteArray.size_extract] at this
        show (cutD (valueC s) (s.extract 1 s.size)).size ≤ _
        omega
      · exact Nat.zero_le _
    · exact Nat.zero_le _
theorem attrT_le (s : ByteArray) : (attrT s).2.1.size ≤ s.size := by
  unfold attrT
  split
  · split
    · exact Nat.le_trans (valueT_le _) (cutD_le _ _)
    · exact Nat.zero_le _
  · exact Nat.zero_le _
def F33 : List AV → Option (Prop × AV) := fun al => match al with
  | [.d (.v (.string s))] => some (s.size + 1 ≤ LIM, .tp [.d (.sl (toksD (beginT s).1)), mkI .i64 (beginT s).2])
  | _ => none
theorem c33 : PSound Tryz.prog 83 (detE F33) := by
  refine det_fn (c := Tryz.b83) mixed Tryz.K_ok (gsound_det c47 (gsound_det c46 (gsound_det c48 (gsound_det c49 (gsound_ref (RSound.frameV c50) gsound_nil))))) Tryz.func83 rfl rfl Tryz.call83 fun al p r q hF hp hq => ?_
  unfold F33 at hF; split at hF <;> cases hF
  rename_i s
  have hp : s.size + 1 ≤ LIM := hp
  have h1 : sSp.size = 1 := rfl
  refine cast (r33 s q).symm ?_
  have ha := anyI_sp s
  have hn : (anyI (s ++ sSp)).toNat = nameN s := rfl
  refine ⟨by omega, ⟨rfl, by rw [ByteArray.size_append]; omega⟩, ha, by rw [ByteArray.size_extract]; omega, ?_⟩
  rw [hn]
  unfold beginT at hq
  refine bcase_mk (fun h => ?_) (fun h => ⟨ha, ?_⟩)
  · have h : nameB (s.extract 0 (nameN s)) = false := by simpa using h
    rw [h, if_neg (by simp)] at hq; exact hq
  have h : nameB (s.extract 0 (nameN s)) = true := by simpa using h
  rw [if_pos h] at hq
  generalize s.extract 0 (nameN s) = name at hq
  have hsz : (s.extract (nameN s) s.size).size ≤ LIM := by rw [ByteArray.size_extract]; omega
  obtain ⟨ANS, hA⟩ : ∃ ANS, beginL name 8 (s.extract (nameN s) s.size) [] = ANS := ⟨_, rfl⟩
  rw [hA] at hq
  refine .openB 0 2 2 (by omega) ?_
  refine ALoop.introM [] m33 (fun x : Nat × ByteArray × List (ByteArray × ByteArray) => st33 x.2.1 name (x.2.2.map attrD)) (fun x => x.1 + x.2.2.length = 8 ∧ x.2.2.length ≤ 6 ∧ x.2.1.size ≤ LIM ∧ beginL name x.1 x.2.1 x.2.2 = ANS) (fun x => x.1)
    ⟨[], (8, s.extract (nameN s) s.size, []), by simp [S.openB, openNil, S.le, sealAll, leL, jks, st33], rfl, by simp, hsz, hA⟩ fun x ⟨hx1, hx2, hx3, hx4⟩ => ?_
  obtain ⟨f, s', l⟩ := x
  simp only at hx1 hx2 hx3 hx4
  obtain ⟨f, rfl⟩ : ∃ g, f = g + 1 := ⟨f - 1, by omega⟩
  have hlen : (l.map attrD).length = l.length := by simp
  have htk : List.take l.length (l.map attrD) = l.map attrD := List.take_of_length_le (by simp)
  refine cast (r33_b _ _ _ _ s' name (l.map attrD) q).symm ?_
  rw [hlen, htk]
  unfold beginL at hx4
  refine ⟨rfl, bcase_dec (fun h => ?_) (fun h => bcase_dec (fun h2 => ?_) (fun h2 => ⟨Nat.le_trans (trimLB_size s') hx3, l, (attrT (trimLB s')).1.1, (attrT (trimLB s')).1.2, by simp, by simp, by omega, rfl, by simp, fun _ _ => ?_⟩))⟩
  · rw [if_pos h] at hx4; subst hx4; exact hq
  · rw [if_neg h, if_pos h2] at hx4; subst hx4; exact hq
  · rw [if_neg h, if_neg h2] at hx4
    refine bcase_mk (fun h3 => ?_) (fun h3 => bcase_mk (fun h4 => ?_) (fun h4 => bcase_mk (fun h5 => ?_) (fun h5 => bcase_mk (fun h6 => ?_) (fun h6 => ?_))))
    · have h3 : (trimLB s').size = s'.size := by have : ((trimLB s').size : Int) = (s'.size : Int) := (by simpa using h3); omega
      rw [if_pos h3] at hx4; subst hx4; exact hq
    · have h3 : ¬ (trimLB s').size = s'.size := by have : ¬ ((trimLB s').size : Int) = (s'.size : Int) := (by simpa using h3); omega
      have h4 : (attrT (trimLB s')).2.2 = false := by simpa using h4
      rw [if_neg h3, if_pos h4] at hx4; subst hx4; exact hq
    · have h3 : ¬ (trimLB s').size = s'.size := by have : ¬ ((trimLB s').size : Int) = (s'.size : Int) := (by simpa using h3); omega
      have h4 : ¬ (attrT (trimLB s')).2.2 = false := by simpa using h4
      rw [if_neg h3, if_neg h4, if_pos h5] at hx4; subst hx4; exact hq
    · have h3 : ¬ (trimLB s').size = s'.size := by have : ¬ ((trimLB s').size : Int) = (s'.size : Int) := (by simpa using h3); omega
      have h4 : ¬ (attrT (trimLB s')).2.2 = false := by simpa using h4
      have h6 : l.length = 6 := by have : (l.length : Int) = 6 := (by simpa using h6); omega
      rw [if_neg h3, if_neg h4, if_neg (by rw [h5]; simp), if_pos h6] at hx4; subst hx4; exact hq
    · have h3 : ¬ (trimLB s').size = s'.size := by have : ¬ ((trimLB s').size : Int) = (s'.size : Int) := (by simpa using h3); omega
      have h4 : ¬ (attrT (trimLB s')).2.2 = false := by simpa using h4
      have h6 : ¬ l.length = 6 := by have : ¬ (l.length : Int) = 6 := (by simpa using h6); omega
      rw [if_neg h3, if_neg h4, if_neg (by rw [h5]; simp), if_neg h6] at hx4
      refine ⟨by simp, by simp, by rw [hlen]; exact Nat.le_trans (Nat.succ_le_succ hx2) (by decide), ?_⟩
      refine .mk [] (f, (attrT (trimLB s')).2.1, l ++ [(attrT (trimLB s')).1]) ?_ ⟨by simp; omega, by simp; omega, Nat.le_trans (attrT_le _) (Nat.le_trans (trimLB_size s') hx3), hx4⟩ (Nat.lt_succ_self f)
      simp [S.le, sealAll, leL, leO, jks, st33, S.fits, fitsL, AV.fits, Ob.fits, attrD]
end Go.Proofs.YtchpfeblinnoiaaGreatDoor
