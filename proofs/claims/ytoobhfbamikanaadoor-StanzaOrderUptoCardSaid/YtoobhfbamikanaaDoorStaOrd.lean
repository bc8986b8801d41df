import Derived.Test.YtoobhfbamikanaaDoorStaTy
set_option linter.unusedSimpArgs false
set_option linter.unusedVariables false
namespace Go.Proofs.YtoobhfbamikanaaDoor
open Go Go.AM Go.RowKit
attribute [local irreducible] aCode aUnr aUnS aOut
def ECutA : List AV → (AV → Prop) → Prop := fun al q => ∃ n l t k, al = [.ag [mkS n, .d (.sl (atsD l)), mkS t, .d (.sl (ksD k))], mkI .i64 1] ∧ FitE (.mk n l t k) ∧ ∀ n' l' t' k', cutM 4 (.mk n l t k) = .mk n' l' t' k' → q (.ag [mkS n', .d (.sl (atsD l')), mkS t', .d (.sl (ksD k'))])
theorem PSound.ex {P : Program} {f : FuncId} {ι : Type} [Inhabited ι] {E : ι → List AV → (AV → Prop) → Prop} (h : ∀ i, PSound P f (E i)) : PSound P f (fun al q => ∃ i, E i al q) :=
  ⟨(h default).enter, fun ext w ar vs q hext hT hlen hrel ⟨i, hq⟩ => (h i).call ext w ar vs q hext hT hlen hrel hq⟩
def ETwA : List AV → (AV → Prop) → Prop := fun al q => ∃ n l t k, al = [.ag [mkS n, .d (.sl (atsD l)), mkS t, .d (.sl (ksD k))]] ∧ FitE (.mk n l t k) ∧ ∀ b, (b = false → (l.map Prod.fst).Nodup) → q (mkB b)
theorem cTwA : PSound Tryd.prog 16 ETwA := (PSound.ex cTw).mono fun al q ⟨n, l, t, k, h1, h2, h3⟩ => ⟨SizeOf.sizeOf (El.mk n l t k) + 1, n, l, t, k, h1, h2, by omega, h3⟩
theorem cCutA : PSound Tryd.prog 11 ECutA := (cCut 4 (by omega)).mono fun al q ⟨n, l, t, k, h1, h2, h3⟩ => ⟨n, l, t, k, h1, trivial, h2, by
  have := h3 (cutM 4 (.mk n l t k)).n (cutM 4 (.mk n l t k)).ats (cutM 4 (.mk n l t k)).t (cutM 4 (.mk n l t k)).ks (by cases cutM 4 (.mk n l t k); rfl)
  exact this⟩
noncomputable abbrev GOrd : List (FuncId × En) := [(6, .pure ELive), (11, .pure ECutA), (16, .pure ETwA), (8, .pure ERead), (9, .pure ESame)]
theorem rOrd (n : BA) (l : List At) (t : BA) (k : List El) (at_ : Int) (q : AV → Prop) :
  (aCode KS GOrd Tryd.b5 (kRet KS Tryd.f5.results.toList q) ⟨[.ag [mkS n, .d (.sl (atsD l)), mkS t, .d (.sl (ksD k))], mkI .i64 at_] ++ List.replicate (Tryd.f5.ntmps - 2) .jk, []⟩) = (
  (([] : List AV) = []) ∧ (
   ∃ (n_1 : ByteArray),
   ∃ (l_1 : List At),
   ∃ (t_1 : ByteArray),
   ∃ (k_1 : List El),
   ([AV.ag [mkS n, AV.d (D.sl (atsD l)), mkS t, AV.d (D.sl (ksD k))], mkI .i64 1] = [AV.ag [mkS n_1, AV.d (D.sl (atsD l_1)), mkS t_1, AV.d (D.sl (ksD k_1))], mkI .i64 1]) ∧
   (FitE (El.mk n_1 l_1 t_1 k_1)) ∧ (
    ∀ (n' : BA),
    ∀ (l' : List At),
    ∀ (t' : BA),
    ∀ (k' : List El),
    ((cutM (4 : Nat) (El.mk n_1 l_1 t_1 k_1)) = (El.mk n' l' t' k')) →
    ∃ (n_2 : ByteArray),
    ∃ (l_2 : List At),
    ∃ (t_2 : ByteArray),
    ∃ (k_2 : List El),
    ([AV.ag [mkS n', AV.d (D.sl (atsD l')), mkS t', AV.d (D.sl (ksD k'))]] = [AV.ag [mkS n_2, AV.d (D.sl (atsD l_2)), mkS t_2, AV.d (D.sl (ksD k_2))]]) ∧
    (FitE (El.mk n_2 l_2 t_2 k_2)) ∧ (
     ∀ (b : Bool),
     ((b = false) → List.Nodup (List.map Prod.fst l_2)) →
     bcase b (
      q (mkB true)) (
      ((List.length (atsD l')) ≤ LIM) →
      bcase (((List.length (atsD l')) : Int) == (0 : Int)) (
       q (mkB true)) (
       ((List.length (atsD l')) ≤ LIM) →
       (((IntKind.wrap .u64 ((List.length (atsD l')) : Int)) = (0 : Int)) → False) ∧
       ((((0 : Int) ≤ (IntKind.wrap .i64 (Int.tmod (IntKind.wrap .u64 at_) (IntKind.wrap .u64 ((List.length (atsD l')) : Int))))) ∧ ((IntKind.wrap .i64 (Int.tmod (IntKind.wrap .u64 at_) (IntKind.wrap .u64 ((List.length (atsD l')) : Int)))) ≤ ((List.length (atsD l')) : Int))) ∧ ((∀ (c : List D), (c ∈ (atsD l')) → (List.length c) = 2) ∧ (((∀ (c : List D), (c ∈ (List.drop (Int.toNat (IntKind.wrap .i64 (Int.tmod (IntKind.wrap .u64 at_) (IntKind.wrap .u64 ((List.length (atsD l')) : Int))))) (atsD l'))) → (List.length c) = 2) ∧ (((List.length (List.drop (Int.toNat (IntKind.wrap .i64 (Int.tmod (IntKind.wrap .u64 at_) (IntKind.wrap .u64 ((List.length (atsD l')) : Int))))) (atsD l'))) ≤ LIM) ∧ ((((0 : Int) ≤ (IntKind.wrap .i64 (Int.tmod (IntKind.wrap .u64 at_) (IntKind.wrap .u64 ((List.length (atsD l')) : Int))))) ∧ ((IntKind.wrap .i64 (Int.tmod (IntKind.wrap .u64 at_) (IntKind.wrap .u64 ((List.length (atsD l')) : Int)))) ≤ ((List.length (atsD l')) : Int))) ∧ ((∀ (c : List D), (c ∈ (List.take (Int.toNat (IntKind.wrap .i64 (Int.tmod (IntKind.wrap .u64 at_) (IntKind.wrap .u64 ((List.length (atsD l')) : Int))))) (atsD l'))) → (List.length c) = 2) ∧ (((List.length (List.drop (Int.toNat (IntKind.wrap .i64 (Int.tmod (IntKind.wrap .u64 at_) (IntKind.wrap .u64 ((List.length (atsD l')) : Int))))) (atsD l'))) = (List.length (List.drop (Int.toNat (IntKind.wrap .i64 (Int.tmod (IntKind.wrap .u64 at_) (IntKind.wrap .u64 ((List.length (atsD l')) : Int))))) (atsD l')))) ∧ ((((List.length (List.drop (Int.toNat (IntKind.wrap .i64 (Int.tmod (IntKind.wrap .u64 at_) (IntKind.wrap .u64 ((List.length (atsD l')) : Int))))) (atsD l'))) + (List.length (List.take (Int.toNat (IntKind.wrap .i64 (Int.tmod (IntKind.wrap .u64 at_) (IntKind.wrap .u64 ((List.length (atsD l')) : Int))))) (atsD l')))) ≤ LIM) ∧ ((∀ (c : List D), (c ∈ (atsD l')) → (List.length c) = 2) ∧ (((List.length (atsD l')) ≤ LIM) ∧ ((∀ (c : List D), (c ∈ [[D.v (Value.string (⟨#[122, 122]⟩ : ByteArray)), D.v (Value.string (⟨#[49]⟩ : ByteArray))]]) → (List.length c) = 2) ∧ (((List.length (atsD l')) = (List.length (atsD l'))) ∧ ((((List.length (atsD l')) + 1) ≤ LIM) ∧ (∃ (n_3 : ByteArray), ∃ (l_3 : List At), ∃ (t_3 : ByteArray), ∃ (k_3 : List El), ([AV.ag [mkS n', AV.d (D.sl (atsD l')), mkS t', AV.d (D.sl (ksD k'))]] = [AV.ag [mkS n_3, AV.d (D.sl (atsD l_3)), mkS t_3, AV.d (D.sl (ksD k_3))]]) ∧ ((FitE (El.mk n_3 l_3 t_3 k_3)) ∧ (∃ (n_4 : ByteArray), ∃ (l_4 : List At), ∃ (t_4 : ByteArray), ∃ (k_4 : List El), ([AV.ag [mkS n', AV.d (D.sl (List.take ((List.length (List.drop (Int.toNat (IntKind.wrap .i64 (Int.tmod (IntKind.wrap .u64 at_) (IntKind.wrap .u64 ((List.length (atsD l')) : Int))))) (atsD l'))) + (List.length (List.take (Int.toNat (IntKind.wrap .i64 (Int.tmod (IntKind.wrap .u64 at_) (IntKind.wrap .u64 ((List.length (atsD l')) : Int))))) (atsD l')))) ((List.drop (Int.toNat (IntKind.wrap .i64 (Int.tmod (IntKind.wrap .u64 at_) (IntKind.wrap .u64 ((List.length (atsD l')) : Int))))) (atsD l')) ++ (List.take (Int.toNat (IntKind.wrap .i64 (Int.tmod (IntKind.wrap .u64 at_) (IntKind.wrap .u64 ((List.length (atsD l')) : Int))))) (atsD l'))))), mkS t', AV.d (D.sl (ksD k'))]] = [AV.ag [mkS n_4, AV.d (D.sl (atsD l_4)), mkS t_4, AV.d (D.sl (ksD k_4))]]) ∧ ((FitE (El.mk n_4 l_4 t_4 k_4)) ∧ (∃ (n_5 : ByteArray), ∃ (l_5 : List At), ∃ (t_5 : ByteArray), ∃ (k_5 : List El), ([AV.ag [mkS n', AV.d (D.sl (List.take ((List.length (atsD l')) + 1) ((atsD l') ++ [[D.v (Value.string (⟨#[122, 122]⟩ : ByteArray)), D.v (Value.string (⟨#[49]⟩ : ByteArray))]]))), mkS t', AV.d (D.sl (ksD k'))]] = [AV.ag [mkS n_5, AV.d (D.sl (atsD l_5)), mkS t_5, AV.d (D.sl (ksD k_5))]]) ∧ ((FitE (El.mk n_5 l_5 t_5 k_5)) ∧ (bcase ((Prod.snd (readM (El.mk n_3 l_3 t_3 k_3))) == (Prod.snd (readM (El.mk n_4 l_4 t_4 k_4)))) (∃ (s : Sz), ∃ (t_6 : Sz), ([AV.ag [mkI .i64 (Sz.kind (Prod.fst (readM (El.mk n_3 l_3 t_3 k_3)))), mkS (Sz.ty (Prod.fst (readM (El.mk n_3 l_3 t_3 k_3)))), mkS (Sz.id (Prod.fst (readM (El.mk n_3 l_3 t_3 k_3)))), mkS (Sz.from_ (Prod.fst (readM (El.mk n_3 l_3 t_3 k_3)))), mkS (Sz.to_ (Prod.fst (readM (El.mk n_3 l_3 t_3 k_3)))), mkS (Sz.show_ (Prod.fst (readM (El.mk n_3 l_3 t_3 k_3)))), mkS (Sz.tok (Prod.fst (readM (El.mk n_3 l_3 t_3 k_3)))), mkS (Sz.rea (Prod.fst (readM (El.mk n_3 l_3 t_3 k_3)))), mkI .u32 (Sz.h (Prod.fst (readM (El.mk n_3 l_3 t_3 k_3)))), mkI .i64 (Sz.ver (Prod.fst (readM (El.mk n_3 l_3 t_3 k_3)))), mkB (Sz.rem (Prod.fst (readM (El.mk n_3 l_3 t_3 k_3)))), AV.d (D.sl (itsD (Sz.its (Prod.fst (readM (El.mk n_3 l_3 t_3 k_3))))))], AV.ag [mkI .i64 (Sz.kind (Prod.fst (readM (El.mk n_4 l_4 t_4 k_4)))), mkS (Sz.ty (Prod.fst (readM (El.mk n_4 l_4 t_4 k_4)))), mkS (Sz.id (Prod.fst (readM (El.mk n_4 l_4 t_4 k_4)))), mkS (Sz.from_ (Prod.fst (readM (El.mk n_4 l_4 t_4 k_4)))), mkS (Sz.to_ (Prod.fst (readM (El.mk n_4 l_4 t_4 k_4)))), mkS (Sz.show_ (Prod.fst (readM (El.mk n_4 l_4 t_4 k_4)))), mkS (Sz.tok (Prod.fst (readM (El.mk n_4 l_4 t_4 k_4)))), mkS (Sz.rea (Prod.fst (readM (El.mk n_4 l_4 t_4 k_4)))), mkI .u32 (Sz.h (Prod.fst (readM (El.mk n_4 l_4 t_4 k_4)))), mkI .i64 (Sz.ver (Prod.fst (readM (El.mk n_4 l_4 t_4 k_4)))), mkB (Sz.rem (Prod.fst (readM (El.mk n_4 l_4 t_4 k_4)))), AV.d (D.sl (itsD (Sz.its (Prod.fst (readM (El.mk n_4 l_4 t_4 k_4))))))]] = [AV.ag [mkI .i64 (Sz.kind s), mkS (Sz.ty s), mkS (Sz.id s), mkS (Sz.from_ s), mkS (Sz.to_ s), mkS (Sz.show_ s), mkS (Sz.tok s), mkS (Sz.rea s), mkI .u32 (Sz.h s), mkI .i64 (Sz.ver s), mkB (Sz.rem s), AV.d (D.sl (itsD (Sz.its s)))], AV.ag [mkI .i64 (Sz.kind t_6), mkS (Sz.ty t_6), mkS (Sz.id t_6), mkS (Sz.from_ t_6), mkS (Sz.to_ t_6), mkS (Sz.show_ t_6), mkS (Sz.tok t_6), mkS (Sz.rea t_6), mkI .u32 (Sz.h t_6), mkI .i64 (Sz.ver t_6), mkB (Sz.rem t_6), AV.d (D.sl (itsD (Sz.its t_6)))]]) ∧ (bcase (sameM s t_6) (q (mkB ((Prod.snd (readM (El.mk n_5 l_5 t_5 k_5))) != (0 : Int)))) (q (mkB false)))) (q (mkB false)))))))))))))))))))) ∧ ((((0 : Int) ≤ (IntKind.wrap .i64 (Int.tmod (IntKind.wrap .u64 at_) (IntKind.wrap .u64 ((List.length (atsD l')) : Int))))) ∧ ((IntKind.wrap .i64 (Int.tmod (IntKind.wrap .u64 at_) (IntKind.wrap .u64 ((List.length (atsD l')) : Int)))) ≤ ((List.length (atsD l')) : Int))) ∧ ((∀ (c : List D), (c ∈ (List.drop (Int.toNat (IntKind.wrap .i64 (Int.tmod (IntKind.wrap .u64 at_) (IntKind.wrap .u64 ((List.length (atsD l')) : Int))))) (atsD l'))) → (List.length c) = 2) ∧ (((List.length (List.drop (Int.toNat (IntKind.wrap .i64 (Int.tmod (IntKind.wrap .u64 at_) (IntKind.wrap .u64 ((List.length (atsD l')) : Int))))) (atsD l'))) ≤ LIM) ∧ ((∀ (c : List D), (c ∈ (List.take (Int.toNat (IntKind.wrap .i64 (Int.tmod (IntKind.wrap .u64 at_) (IntKind.wrap .u64 ((List.length (atsD l')) : Int))))) (atsD l'))) → (List.length c) = 2) ∧ (((List.length (List.drop (Int.toNat (IntKind.wrap .i64 (Int.tmod (IntKind.wrap .u64 at_) (IntKind.wrap .u64 ((List.length (atsD l')) : Int))))) (atsD l'))) = (List.length (List.drop (Int.toNat (IntKind.wrap .i64 (Int.tmod (IntKind.wrap .u64 at_) (IntKind.wrap .u64 ((List.length (atsD l')) : Int))))) (atsD l')))) ∧ ((((List.length (List.drop (Int.toNat (IntKind.wrap .i64 (Int.tmod (IntKind.wrap .u64 at_) (IntKind.wrap .u64 ((List.length (atsD l')) : Int))))) (atsD l'))) + (List.length (List.take (Int.toNat (IntKind.wrap .i64 (Int.tmod (IntKind.wrap .u64 at_) (IntKind.wrap .u64 ((List.length (atsD l')) : Int))))) (atsD l')))) ≤ LIM) ∧ ((∀ (c : List D), (c ∈ (atsD l')) → (List.length c) = 2) ∧ (((List.length (atsD l')) ≤ LIM) ∧ ((∀ (c : List D), (c ∈ [[D.v (Value.string (⟨#[122, 122]⟩ : ByteArray)), D.v (Value.string (⟨#[49]⟩ : ByteArray))]]) → (List.length c) = 2) ∧ (((List.length (atsD l')) = (List.length (atsD l'))) ∧ ((((List.length (atsD l')) + 1) ≤ LIM) ∧ (∃ (n_3 : ByteArray), ∃ (l_3 : List At), ∃ (t_3 : ByteArray), ∃ (k_3 : List El), ([AV.ag [mkS n', AV.d (D.sl (atsD l')), mkS t', AV.d (D.sl (ksD k'))]] = [AV.ag [mkS n_3, AV.d (D.sl (atsD l_3)), mkS t_3, AV.d (D.sl (ksD k_3))]]) ∧ ((FitE (El.mk n_3 l_3 t_3 k_3)) ∧ (∃ (n_4 : ByteArray), ∃ (l_4 : List At), ∃ (t_4 : ByteArray), ∃ (k_4 : List El), ([AV.ag [mkS n', AV.d (D.sl (List.take ((List.length (List.drop (Int.toNat (IntKind.wrap .i64 (Int.tmod (IntKind.wrap .u64 at_) (IntKind.wrap .u64 ((List.length (atsD l')) : Int))))) (atsD l'))) + (List.length (List.take (Int.toNat (IntKind.wrap .i64 (Int.tmod (IntKind.wrap .u64 at_) (IntKind.wrap .u64 ((List.length (atsD l')) : Int))))) (atsD l')))) ((List.drop (Int.toNat (IntKind.wrap .i64 (Int.tmod (IntKind.wrap .u64 at_) (IntKind.wrap .u64 ((List.length (atsD l')) : Int))))) (atsD l')) ++ (List.take (Int.toNat (IntKind.wrap .i64 (Int.tmod (IntKind.wrap .u64 at_) (IntKind.wrap .u64 ((List.length (atsD l')) : Int))))) (atsD l'))))), mkS t', AV.d (D.sl (ksD k'))]] = [AV.ag [mkS n_4, AV.d (D.sl (atsD l_4)), mkS t_4, AV.d (D.sl (ksD k_4))]]) ∧ ((FitE (El.mk n_4 l_4 t_4 k_4)) ∧ (∃ (n_5 : ByteArray), ∃ (l_5 : List At), ∃ (t_5 : ByteArray), ∃ (k_5 : List El), ([AV.ag [mkS n', AV.d (D.sl (List.take ((List.length (atsD l')) + 1) ((atsD l') ++ [[D.v (Value.string (⟨#[122, 122]⟩ : ByteArray)), D.v (Value.string (⟨#[49]⟩ : ByteArray))]]))), mkS t', AV.d (D.sl (ksD k'))]] = [AV.ag [mkS n_5, AV.d (D.sl (atsD l_5)), mkS t_5, AV.d (D.sl (ksD k_5))]]) ∧ ((FitE (El.mk n_5 l_5 t_5 k_5)) ∧ (bcase ((Prod.snd (readM (El.mk n_3 l_3 t_3 k_3))) == (Prod.snd (readM (El.mk n_4 l_4 t_4 k_4)))) (∃ (s : Sz), ∃ (t_6 : Sz), ([AV.ag [mkI .i64 (Sz.kind (Prod.fst (readM (El.mk n_3 l_3 t_3 k_3)))), mkS (Sz.ty (Prod.fst (readM (El.mk n_3 l_3 t_3 k_3)))), mkS (Sz.id (Prod.fst (readM (El.mk n_3 l_3 t_3 k_3)))), mkS (Sz.from_ (Prod.fst (readM (El.mk n_3 l_3 t_3 k_3)))), mkS (Sz.to_ (Prod.fst (readM (El.mk n_3 l_3 t_3 k_3)))), mkS (Sz.show_ (Prod.fst (readM (El.mk n_3 l_3 t_3 k_3)))), mkS (Sz.tok (Prod.fst (readM (El.mk n_3 l_3 t_3 k_3)))), mkS (Sz.rea (Prod.fst (readM (El.mk n_3 l_3 t_3 k_3)))), mkI .u32 (Sz.h (Prod.fst (readM (El.mk n_3 l_3 t_3 k_3)))), mkI .i64 (Sz.ver (Prod.fst (readM (El.mk n_3 l_3 t_3 k_3)))), mkB (Sz.rem (Prod.fst (readM (El.mk n_3 l_3 t_3 k_3)))), AV.d (D.sl (itsD (Sz.its (Prod.fst (readM (El.mk n_3 l_3 t_3 k_3))))))], AV.ag [mkI .i64 (Sz.kind (Prod.fst (readM (El.mk n_4 l_4 t_4 k_4)))), mkS (Sz.ty (Prod.fst (readM (El.mk n_4 l_4 t_4 k_4)))), mkS (Sz.id (Prod.fst (readM (El.mk n_4 l_4 t_4 k_4)))), mkS (Sz.from_ (Prod.fst (readM (El.mk n_4 l_4 t_4 k_4)))), mkS (Sz.to_ (Prod.fst (readM (El.mk n_4 l_4 t_4 k_4)))), mkS (Sz.show_ (Prod.fst (readM (El.mk n_4 l_4 t_4 k_4)))), mkS (Sz.tok (Prod.fst (readM (El.mk n_4 l_4 t_4 k_4)))), mkS (Sz.rea (Prod.fst (readM (El.mk n_4 l_4 t_4 k_4)))), mkI .u32 (Sz.h (Prod.fst (readM (El.mk n_4 l_4 t_4 k_4)))), mkI .i64 (Sz.ver (Prod.fst (readM (El.mk n_4 l_4 t_4 k_4)))), mkB (Sz.rem (Prod.fst (readM (El.mk n_4 l_4 t_4 k_4)))), AV.d (D.sl (itsD (Sz.its (Prod.fst (readM (El.mk n_4 l_4 t_4 k_4))))))]] = [AV.ag [mkI .i64 (Sz.kind s), mkS (Sz.ty s), mkS (Sz.id s), mkS (Sz.from_ s), mkS (Sz.to_ s), mkS (Sz.show_ s), mkS (Sz.tok s), mkS (Sz.rea s), mkI .u32 (Sz.h s), mkI .i64 (Sz.ver s), mkB (Sz.rem s), AV.d (D.sl (itsD (Sz.its s)))], AV.ag [mkI .i64 (Sz.kind t_6), mkS (Sz.ty t_6), mkS (Sz.id t_6), mkS (Sz.from_ t_6), mkS (Sz.to_ t_6), mkS (Sz.show_ t_6), mkS (Sz.tok t_6), mkS (Sz.rea t_6), mkI .u32 (Sz.h t_6), mkI .i64 (Sz.ver t_6), mkB (Sz.rem t_6), AV.d (D.sl (itsD (Sz.its t_6)))]]) ∧ (bcase (sameM s t_6) (q (mkB ((Prod.snd (readM (El.mk n_5 l_5 t_5 k_5))) != (0 : Int)))) (q (mkB false)))) (q (mkB false))))))))))))))))))))))) ∧
       (((0 : Int) ≤ (IntKind.wrap .i64 (Int.tmod (IntKind.wrap .u64 at_) (IntKind.wrap .u64 ((List.length (atsD l')) : Int))))) ∧ ((IntKind.wrap .i64 (Int.tmod (IntKind.wrap .u64 at_) (IntKind.wrap .u64 ((List.length (atsD l')) : Int)))) ≤ ((List.length (atsD l')) : Int))) ∧
       (∀ (c : List D), (c ∈ (atsD l')) → (List.length c) = 2) ∧
       ((∀ (c : List D), (c ∈ (List.drop (Int.toNat (IntKind.wrap .i64 (Int.tmod (IntKind.wrap .u64 at_) (IntKind.wrap .u64 ((List.length (atsD l')) : Int))))) (atsD l'))) → (List.length c) = 2) ∧ (((List.length (List.drop (Int.toNat (IntKind.wrap .i64 (Int.tmod (IntKind.wrap .u64 at_) (IntKind.wrap .u64 ((List.length (atsD l')) : Int))))) (atsD l'))) ≤ LIM) ∧ ((((0 : Int) ≤ (IntKind.wrap .i64 (Int.tmod (IntKind.wrap .u64 at_) (IntKind.wrap .u64 ((List.length (atsD l')) : Int))))) ∧ ((IntKind.wrap .i64 (Int.tmod (IntKind.wrap .u64 at_) (IntKind.wrap .u64 ((List.length (atsD l')) : Int)))) ≤ ((List.length (atsD l')) : Int))) ∧ ((∀ (c : List D), (c ∈ (List.take (Int.toNat (IntKind.wrap .i64 (Int.tmod (IntKind.wrap .u64 at_) (IntKind.wrap .u64 ((List.length (atsD l')) : Int))))) (atsD l'))) → (List.length c) = 2) ∧ (((List.length (List.drop (Int.toNat (IntKind.wrap .i64 (Int.tmod (IntKind.wrap .u64 at_) (IntKind.wrap .u64 ((List.length (atsD l')) : Int))))) (atsD l'))) = (List.length (List.drop (Int.toNat (IntKind.wrap .i64 (Int.tmod (IntKind.wrap .u64 at_) (IntKind.wrap .u64 ((List.length (atsD l')) : Int))))) (atsD l')))) ∧ ((((List.length (List.drop (Int.toNat (IntKind.wrap .i64 (Int.tmod (IntKind.wrap .u64 at_) (IntKind.wrap .u64 ((List.length (atsD l')) : Int))))) (atsD l'))) + (List.length (List.take (Int.toNat (IntKind.wrap .i64 (Int.tmod (IntKind.wrap .u64 at_) (IntKind.wrap .u64 ((List.length (atsD l')) : Int))))) (atsD l')))) ≤ LIM) ∧ ((∀ (c : List D), (c ∈ (atsD l')) → (List.length c) = 2) ∧ (((List.length (atsD l')) ≤ LIM) ∧ ((∀ (c : List D), (c ∈ [[D.v (Value.string (⟨#[122, 122]⟩ : ByteArray)), D.v (Value.string (⟨#[49]⟩ : ByteArray))]]) → (List.length c) = 2) ∧ (((List.length (atsD l')) = (List.length (atsD l'))) ∧ ((((List.length (atsD l')) + 1) ≤ LIM) ∧ (∃ (n_3 : ByteArray), ∃ (l_3 : List At), ∃ (t_3 : ByteArray), ∃ (k_3 : List El), ([AV.ag [mkS n', AV.d (D.sl (atsD l')), mkS t', AV.d (D.sl (ksD k'))]] = [AV.ag [mkS n_3, AV.d (D.sl (atsD l_3)), mkS t_3, AV.d (D.sl (ksD k_3))]]) ∧ ((FitE (El.mk n_3 l_3 t_3 k_3)) ∧ (∃ (n_4 : ByteArray), ∃ (l_4 : List At), ∃ (t_4 : ByteArray), ∃ (k_4 : List El), ([AV.ag [mkS n', AV.d (D.sl (List.take ((List.length (List.drop (Int.toNat (IntKind.wrap .i64 (Int.tmod (IntKind.wrap .u64 at_) (IntKind.wrap .u64 ((List.length (atsD l')) : Int))))) (atsD l'))) + (List.length (List.take (Int.toNat (IntKind.wrap .i64 (Int.tmod (IntKind.wrap .u64 at_) (IntKind.wrap .u64 ((List.length (atsD l')) : Int))))) (atsD l')))) ((List.drop (Int.toNat (IntKind.wrap .i64 (Int.tmod (IntKind.wrap .u64 at_) (IntKind.wrap .u64 ((List.length (atsD l')) : Int))))) (atsD l')) ++ (List.take (Int.toNat (IntKind.wrap .i64 (Int.tmod (IntKind.wrap .u64 at_) (IntKind.wrap .u64 ((List.length (atsD l')) : Int))))) (atsD l'))))), mkS t', AV.d (D.sl (ksD k'))]] = [AV.ag [mkS n_4, AV.d (D.sl (atsD l_4)), mkS t_4, AV.d (D.sl (ksD k_4))]]) ∧ ((FitE (El.mk n_4 l_4 t_4 k_4)) ∧ (∃ (n_5 : ByteArray), ∃ (l_5 : List At), ∃ (t_5 : ByteArray), ∃ (k_5 : List El), ([AV.ag [mkS n', AV.d (D.sl (List.take ((List.length (atsD l')) + 1) ((atsD l') ++ [[D.v (Value.string (⟨#[122, 122]⟩ : ByteArray)), D.v (Value.string (⟨#[49]⟩ : ByteArray))]]))), mkS t', AV.d (D.sl (ksD k'))]] = [AV.ag [mkS n_5, AV.d (D.sl (atsD l_5)), mkS t_5, AV.d (D.sl (ksD k_5))]]) ∧ ((FitE (El.mk n_5 l_5 t_5 k_5)) ∧ (bcase ((Prod.snd (readM (El.mk n_3 l_3 t_3 k_3))) == (Prod.snd (readM (El.mk n_4 l_4 t_4 k_4)))) (∃ (s : Sz), ∃ (t_6 : Sz), ([AV.ag [mkI .i64 (Sz.kind (Prod.fst (readM (El.mk n_3 l_3 t_3 k_3)))), mkS (Sz.ty (Prod.fst (readM (El.mk n_3 l_3 t_3 k_3)))), mkS (Sz.id (Prod.fst (readM (El.mk n_3 l_3 t_3 k_3)))), mkS (Sz.from_ (Prod.fst (readM (El.mk n_3 l_3 t_3 k_3)))), mkS (Sz.to_ (Prod.fst (readM (El.mk n_3 l_3 t_3 k_3)))), mkS (Sz.show_ (Prod.fst (readM (El.mk n_3 l_3 t_3 k_3)))), mkS (Sz.tok (Prod.fst (readM (El.mk n_3 l_3 t_3 k_3)))), mkS (Sz.rea (Prod.fst (readM (El.mk n_3 l_3 t_3 k_3)))), mkI .u32 (Sz.h (Prod.fst (readM (El.mk n_3 l_3 t_3 k_3)))), mkI .i64 (Sz.ver (Prod.fst (readM (El.mk n_3 l_3 t_3 k_3)))), mkB (Sz.rem (Prod.fst (readM (El.mk n_3 l_3 t_3 k_3)))), AV.d (D.sl (itsD (Sz.its (Prod.fst (readM (El.mk n_3 l_3 t_3 k_3))))))], AV.ag [mkI .i64 (Sz.kind (Prod.fst (readM (El.mk n_4 l_4 t_4 k_4)))), mkS (Sz.ty (Prod.fst (readM (El.mk n_4 l_4 t_4 k_4)))), mkS (Sz.id (Prod.fst (readM (El.mk n_4 l_4 t_4 k_4)))), mkS (Sz.from_ (Prod.fst (readM (El.mk n_4 l_4 t_4 k_4)))), mkS (Sz.to_ (Prod.fst (readM (El.mk n_4 l_4 t_4 k_4)))), mkS (Sz.show_ (Prod.fst (readM (El.mk n_4 l_4 t_4 k_4)))), mkS (Sz.tok (Prod.fst (readM (El.mk n_4 l_4 t_4 k_4)))), mkS (Sz.rea (Prod.fst (readM (El.mk n_4 l_4 t_4 k_4)))), mkI .u32 (Sz.h (Prod.fst (readM (El.mk n_4 l_4 t_4 k_4)))), mkI .i64 (Sz.ver (Prod.fst (readM (El.mk n_4 l_4 t_4 k_4)))), mkB (Sz.rem (Prod.fst (readM (El.mk n_4 l_4 t_4 k_4)))), AV.d (D.sl (itsD (Sz.its (Prod.fst (readM (El.mk n_4 l_4 t_4 k_4))))))]] = [AV.ag [mkI .i64 (Sz.kind s), mkS (Sz.ty s), mkS (Sz.id s), mkS (Sz.from_ s), mkS (Sz.to_ s), mkS (Sz.show_ s), mkS (Sz.tok s), mkS (Sz.rea s), mkI .u32 (Sz.h s), mkI .i64 (Sz.ver s), mkB (Sz.rem s), AV.d (D.sl (itsD (Sz.its s)))], AV.ag [mkI .i64 (Sz.kind t_6), mkS (Sz.ty t_6), mkS (Sz.id t_6), mkS (Sz.from_ t_6), mkS (Sz.to_ t_6), mkS (Sz.show_ t_6), mkS (Sz.tok t_6), mkS (Sz.rea t_6), mkI .u32 (Sz.h t_6), mkI .i64 (Sz.ver t_6), mkB (Sz.rem t_6), AV.d (D.sl (itsD (Sz.its t_6)))]]) ∧ (bcase (sameM s t_6) (q (mkB ((Prod.snd (readM (El.mk n_5 l_5 t_5 k_5))) != (0 : Int)))) (q (mkB false)))) (q (mkB false)))))))))))))))))))) ∧
       (((0 : Int) ≤ (IntKind.wrap .i64 (Int.tmod (IntKind.wrap .u64 at_) (IntKind.wrap .u64 ((List.length (atsD l')) : Int))))) ∧ ((IntKind.wrap .i64 (Int.tmod (IntKind.wrap .u64 at_) (IntKind.wrap .u64 ((List.length (atsD l')) : Int)))) ≤ ((List.length (atsD l')) : Int))) ∧
       (∀ (c : List D), (c ∈ (List.drop (Int.toNat (IntKind.wrap .i64 (Int.tmod (IntKind.wrap .u64 at_) (IntKind.wrap .u64 ((List.length (atsD l')) : Int))))) (atsD l'))) → (List.length c) = 2) ∧
       ((List.length (List.drop (Int.toNat (IntKind.wrap .i64 (Int.tmod (IntKind.wrap .u64 at_) (IntKind.wrap .u64 ((List.length (atsD l')) : Int))))) (atsD l'))) ≤ LIM) ∧
       (∀ (c : List D), (c ∈ (List.take (Int.toNat (IntKind.wrap .i64 (Int.tmod (IntKind.wrap .u64 at_) (IntKind.wrap .u64 ((List.length (atsD l')) : Int))))) (atsD l'))) → (List.length c) = 2) ∧
       ((List.length (List.drop (Int.toNat (IntKind.wrap .i64 (Int.tmod (IntKind.wrap .u64 at_) (IntKind.wrap .u64 ((List.length (atsD l')) : Int))))) (atsD l'))) = (List.length (List.drop (Int.toNat (IntKind.wrap .i64 (Int.tmod (IntKind.wrap .u64 at_) (IntKind.wrap .u64 ((List.length (atsD l')) : Int))))) (atsD l')))) ∧
       (((List.length (List.drop (Int.toNat (IntKind.wrap .i64 (Int.tmod (IntKind.wrap .u64 at_) (IntKind.wrap .u64 ((List.length (atsD l')) : Int))))) (atsD l'))) + (List.length (List.take (Int.toNat (IntKind.wrap .i64 (Int.tmod (IntKind.wrap .u64 at_) (IntKind.wrap .u64 ((List.length (atsD l')) : Int))))) (atsD l')))) ≤ LIM) ∧
       (∀ (c : List D), (c ∈ (atsD l')) → (List.length c) = 2) ∧
       ((List.length (atsD l')) ≤ LIM) ∧
       (∀ (c : List D), (c ∈ [[D.v (Value.string (⟨#[122, 122]⟩ : ByteArray)), D.v (Value.string (⟨#[49]⟩ : ByteArray))]]) → (List.length c) = 2) ∧
       ((List.length (atsD l')) = (List.length (atsD l'))) ∧
       (((List.length (atsD l')) + 1) ≤ LIM) ∧ (
        ∃ (n_3 : ByteArray),
        ∃ (l_3 : List At),
        ∃ (t_3 : ByteArray),
        ∃ (k_3 : List El),
        ([AV.ag [mkS n', AV.d (D.sl (atsD l')), mkS t', AV.d (D.sl (ksD k'))]] = [AV.ag [mkS n_3, AV.d (D.sl (atsD l_3)), mkS t_3, AV.d (D.sl (ksD k_3))]]) ∧
        (FitE (El.mk n_3 l_3 t_3 k_3)) ∧ (
         ∃ (n_4 : ByteArray),
         ∃ (l_4 : List At),
         ∃ (t_4 : ByteArray),
         ∃ (k_4 : List El),
         ([AV.ag [mkS n', AV.d (D.sl (List.take ((List.length (List.drop (Int.toNat (IntKind.wrap .i64 (Int.tmod (IntKind.wrap .u64 at_) (IntKind.wrap .u64 ((List.length (atsD l')) : Int))))) (atsD l'))) + (List.length (List.take (Int.toNat (IntKind.wrap .i64 (Int.tmod (IntKind.wrap .u64 at_) (IntKind.wrap .u64 ((List.length (atsD l')) : Int))))) (atsD l')))) ((List.drop (Int.toNat (IntKind.wrap .i64 (Int.tmod (IntKind.wrap .u64 at_) (IntKind.wrap .u64 ((List.length (atsD l')) : Int))))) (atsD l')) ++ (List.take (Int.toNat (IntKind.wrap .i64 (Int.tmod (IntKind.wrap .u64 at_) (IntKind.wrap .u64 ((List.length (atsD l')) : Int))))) (atsD l'))))), mkS t', AV.d (D.sl (ksD k'))]] = [AV.ag [mkS n_4, AV.d (D.sl (atsD l_4)), mkS t_4, AV.d (D.sl (ksD k_4))]]) ∧
         (FitE (El.mk n_4 l_4 t_4 k_4)) ∧ (
          ∃ (n_5 : ByteArray),
          ∃ (l_5 : List At),
          ∃ (t_5 : ByteArray),
          ∃ (k_5 : List El),
          ([AV.ag [mkS n', AV.d (D.sl (List.take ((List.length (atsD l')) + 1) ((atsD l') ++ [[D.v (Value.string (⟨#[122, 122]⟩ : ByteArray)), D.v (Value.string (⟨#[49]⟩ : ByteArray))]]))), mkS t', AV.d (D.sl (ksD k'))]] = [AV.ag [mkS n_5, AV.d (D.sl (atsD l_5)), mkS t_5, AV.d (D.sl (ksD k_5))]]) ∧
          (FitE (El.mk n_5 l_5 t_5 k_5)) ∧
          bcase ((Prod.snd (readM (El.mk n_3 l_3 t_3 k_3))) == (Prod.snd (readM (El.mk n_4 l_4 t_4 k_4)))) (
           ∃ (s : Sz),
           ∃ (t_6 : Sz),
           ([AV.ag [mkI .i64 (Sz.kind (Prod.fst (readM (El.mk n_3 l_3 t_3 k_3)))), mkS (Sz.ty (Prod.fst (readM (El.mk n_3 l_3 t_3 k_3)))), mkS (Sz.id (Prod.fst (readM (El.mk n_3 l_3 t_3 k_3)))), mkS (Sz.from_ (Prod.fst (readM (El.mk n_3 l_3 t_3 k_3)))), mkS (Sz.to_ (Prod.fst (readM (El.mk n_3 l_3 t_3 k_3)))), mkS (Sz.show_ (Prod.fst (readM (El.mk n_3 l_3 t_3 k_3)))), mkS (Sz.tok (Prod.fst (readM (El.mk n_3 l_3 t_3 k_3)))), mkS (Sz.rea (Prod.fst (readM (El.mk n_3 l_3 t_3 k_3)))), mkI .u32 (Sz.h (Prod.fst (readM (El.mk n_3 l_3 t_3 k_3)))), mkI .i64 (Sz.ver (Prod.fst (readM (El.mk n_3 l_3 t_3 k_3)))), mkB (Sz.rem (Prod.fst (readM (El.mk n_3 l_3 t_3 k_3)))), AV.d (D.sl (itsD (Sz.its (Prod.fst (readM (El.mk n_3 l_3 t_3 k_3))))))], AV.ag [mkI .i64 (Sz.kind (Prod.fst (readM (El.mk n_4 l_4 t_4 k_4)))), mkS (Sz.ty (Prod.fst (readM (El.mk n_4 l_4 t_4 k_4)))), mkS (Sz.id (Prod.fst (readM (El.mk n_4 l_4 t_4 k_4)))), mkS (Sz.from_ (Prod.fst (readM (El.mk n_4 l_4 t_4 k_4)))), mkS (Sz.to_ (Prod.fst (readM (El.mk n_4 l_4 t_4 k_4)))), mkS (Sz.show_ (Prod.fst (readM (El.mk n_4 l_4 t_4 k_4)))), mkS (Sz.tok (Prod.fst (readM (El.mk n_4 l_4 t_4 k_4)))), mkS (Sz.rea (Prod.fst (readM (El.mk n_4 l_4 t_4 k_4)))), mkI .u32 (Sz.h (Prod.fst (readM (El.mk n_4 l_4 t_4 k_4)))), mkI .i64 (Sz.ver (Prod.fst (readM (El.mk n_4 l_4 t_4 k_4)))), mkB (Sz.rem (Prod.fst (readM (El.mk n_4 l_4 t_4 k_4)))), AV.d (D.sl (itsD (Sz.its (Prod.fst (readM (El.mk n_4 l_4 t_4 k_4))))))]] = [AV.ag [mkI .i64 (Sz.kind s), mkS (Sz.ty s), mkS (Sz.id s), mkS (Sz.from_ s), mkS (Sz.to_ s), mkS (Sz.show_ s), mkS (Sz.tok s), mkS (Sz.rea s), mkI .u32 (Sz.h s), mkI .i64 (Sz.ver s), mkB (Sz.rem s), AV.d (D.sl (itsD (Sz.its s)))], AV.ag [mkI .i64 (Sz.kind t_6), mkS (Sz.ty t_6), mkS (Sz.id t_6), mkS (Sz.from_ t_6), mkS (Sz.to_ t_6), mkS (Sz.show_ t_6), mkS (Sz.tok t_6), mkS (Sz.rea t_6), mkI .u32 (Sz.h t_6), mkI .i64 (Sz.ver t_6), mkB (Sz.rem t_6), AV.d (D.sl (itsD (Sz.its t_6)))]]) ∧
           bcase (sameM s t_6) (
            q (mkB ((Prod.snd (readM (El.mk n_5 l_5 t_5 k_5))) != (0 : Int)))) (
            q (mkB false))) (
           q (mkB false))))))))))) := by kernel_rfl
theorem fitK_map {f : El → El} (hf : ∀ e, e.fit → (f e).fit) {l : List El} (h : fitK l) (m : Nat) : fitK ((l.take m).map f) := fitK_of fun e he => by
  obtain ⟨x, hx, rfl⟩ := List.mem_map.1 he
  exact hf x (fitK_mem h x (List.mem_of_mem_take hx))
theorem fit_cutF {f : El → El} (hf : ∀ e, e.fit → (f e).fit) (d : Int) (e : El) (h : e.fit) : (cutF f d e).fit := by
  obtain ⟨n, a, t, k⟩ := e
  obtain ⟨h1, h2, ⟨h3, h4⟩, h5, h6⟩ := h
  refine ⟨h1, h2, ⟨by rw [El.ats, List.length_take]; omega, fun x hx => h4 x (List.mem_of_mem_take hx)⟩, ?_, ?_⟩
  · split
    · rw [List.length_map, El.ks, List.length_take]; omega
    · exact Nat.zero_le _
  · split
    · exact fitK_map hf h6 20
    · trivial
theorem fit_cut : ∀ (d : Nat) (e : El), e.fit → (cutM d e).fit
  | 0, e, h => fit_cutF (fun e h => h) 5 e h
  | d + 1, e, h => fit_cutF (fit_cut d) (4 - d) e h
theorem cut_ats (d : Nat) (e : El) : (cutM d e).ats = e.ats.take 8 := by cases d <;> rfl
theorem atsD_drop (l : List At) (n : Nat) : (atsD l).drop n = atsD (l.drop n) := by simp [atsD, List.map_drop]
theorem atsD_take (l : List At) (n : Nat) : (atsD l).take n = atsD (l.take n) := by simp [atsD, List.map_take]
theorem atsD_app (l r : List At) : atsD l ++ atsD r = atsD (l ++ r) := by simp [atsD]
theorem atsD_two (l : List At) : ∀ c ∈ atsD l, c.length = 2 := fun c hc => by
  obtain ⟨x, _, rfl⟩ := List.mem_map.1 hc; rfl
def FOrd : List AV → Option (Prop × AV) := fun al => match al with
  | [.ag [.d (.v (.string n)), .d (.sl a), .d (.v (.string t)), .d (.sl b)], .d (.v (.int .i64 at_))] => some (∃ l k, a = atsD l ∧ b = ksD k ∧ FitE (.mk n l t k), mkB true)
  | _ => none
theorem cOrd : PSound Tryd.prog 5 (detE FOrd) := by
  refine det_fn (c := Tryd.b5) mixed KS_ok (gsound_pure cLive (gsound_pure cCutA (gsound_pure cTwA (gsound_pure cStRead (gsound_pure cSame gsound_nil))))) Tryd.func5 rfl rfl Tryd.call5 fun al p r q hF hp hq => ?_
  unfold FOrd at hF; split at hF <;> cases hF
  rename_i n a t b at_
  obtain ⟨l, k, rfl, rfl, hf⟩ := hp
  refine cast (rOrd n l t k at_ q).symm ⟨rfl, n, l, t, k, rfl, hf, fun n' l' t' k' hc => ?_⟩
  have hf' : FitE (.mk n' l' t' k') := ⟨by rw [← hc]; exact fit_cut 4 _ hf.ok⟩
  have h8 : l'.length ≤ 8 := by
    have := cut_ats 4 (.mk n l t k)
    rw [hc] at this
    simp only [El.ats] at this
    rw [this, List.length_take]; omega
  refine ⟨n', l', t', k', rfl, hf', fun b hb => bcase_mk (fun _ => hq) (fun hbf hlim => bcase_mk (fun _ => hq) (fun h0 hlim2 => ?_))⟩
  have hnd := hb hbf
  rw [atsD_len] at h0 hlim
  have hpos : 0 < l'.length := by
    have : ¬ ((l'.length : Int) = 0) := by simpa using h0
    omega
  have hu : IntKind.wrap .u64 ((atsD l').length : Int) = l'.length := by rw [atsD_len]; exact IntWalk.u64_in _ (by omega)
  have hat : 0 ≤ IntKind.wrap .u64 at_ := by rw [IntKind.wrap_u64]; omega
  rw [hu]
  have hJ : 0 ≤ IntKind.wrap .i64 (Int.tmod (IntKind.wrap .u64 at_) l'.length) ∧ IntKind.wrap .i64 (Int.tmod (IntKind.wrap .u64 at_) l'.length) < l'.length := by
    have h1 : 0 ≤ Int.tmod (IntKind.wrap .u64 at_) l'.length := Int.tmod_nonneg _ hat
    have h2 : Int.tmod (IntKind.wrap .u64 at_) l'.length < l'.length := Int.tmod_lt_of_pos _ (by omega)
    rw [IntWalk.i64_in _ (by omega)]
    exact ⟨h1, h2⟩
  generalize IntKind.wrap .i64 (Int.tmod (IntKind.wrap .u64 at_) l'.length) = J at *
  have hJn : J.toNat < l'.length := by omega
  simp only [atsD_drop, atsD_take]
  have hp : l'.Perm (l'.drop J.toNat ++ l'.take J.toNat) := (List.perm_append_comm.trans (by rw [List.take_append_drop])).symm
  have e1 := @read_perm n' l' _ t' k' hp hnd
  have e2 := read_more n' l' t' k' ⟨#[49]⟩
  have fa : ∀ (r : List At), r.length ≤ 10 → (∀ x ∈ r, x.1.size ≤ LIM ∧ x.2.size ≤ LIM) → FitE (.mk n' r t' k') := fun r h1 h2 => ⟨⟨hf'.ok.1, hf'.ok.2.1, ⟨len_lim h1, h2⟩, hf'.ok.2.2.2.1, hf'.ok.2.2.2.2⟩⟩
  have f1 : FitE (.mk n' (l'.drop J.toNat ++ l'.take J.toNat) t' k') := fa _ (by simp; omega) fun x hx => El.fit_ats hf'.ok |>.2 x (hp.mem_iff.2 hx)
  have f2 : FitE (.mk n' (l' ++ [(kZz, ⟨#[49]⟩)]) t' k') := fa _ (by simp; omega) fun x hx => by
    rcases List.mem_append.1 hx with h | h
    · exact El.fit_ats hf'.ok |>.2 x h
    · rw [List.mem_singleton] at h; subst h; exact ⟨small (by decide), small (by decide)⟩
  have hL := LIM_ge
  have e3 : List.take ((atsD (l'.drop J.toNat)).length + (atsD (l'.take J.toNat)).length) (atsD (l'.drop J.toNat) ++ atsD (l'.take J.toNat)) = atsD (l'.drop J.toNat ++ l'.take J.toNat) := by
    rw [atsD_app, List.take_of_length_le (by simp only [atsD_len, List.length_append]; omega)]
  have e4 : List.take ((atsD l').length + 1) (atsD l' ++ [[D.v (Value.string ⟨#[122, 122]⟩), D.v (Value.string ⟨#[49]⟩)]]) = atsD (l' ++ [(kZz, ⟨#[49]⟩)]) := by
    rw [List.take_of_length_le (by simp)]
    simp [atsD, atD, kZz]
  have h2 : ∀ c ∈ [[D.v (Value.string (⟨#[122, 122]⟩ : ByteArray)), D.v (Value.string (⟨#[49]⟩ : ByteArray))]], c.length = 2 := fun c hc => by
    rw [List.mem_singleton] at hc; subst hc; rfl
  repeat' refine And.intro ?_ ?_
  all_goals
    first
      | exact True.intro
      | exact atsD_two _
      | exact h2
      | exact rfl
      | omega
      | (simp only [atsD_len, List.length_drop, List.length_take]; omega)
      | (refine ⟨n', l', t', k', rfl, hf', n', l'.drop J.toNat ++ l'.take J.toNat, t', k', by rw [e3], f1, n', l' ++ [(kZz, ⟨#[49]⟩)], t', k', by rw [e4], f2, ?_⟩
         rw [← e1]
         refine bcase_mk (fun _ => ⟨(readM (.mk n' l' t' k')).1, (readM (.mk n' l' t' k')).1, rfl, bcase_mk (fun _ => ?_) (fun h => ?_)⟩) (fun h => ?_)
         · rw [show ((readM (.mk n' (l' ++ [(kZz, ⟨#[49]⟩)]) t' k')).2 != 0) = true from by simpa using e2]; exact hq
         · simp [sameM] at h
         · simp at h)
theorem hOrd : ∀ as', TyArgs Tryd.prog Tryd.f5.params.toList as' → ∃ p, FOrd as' = some (p, mkB true) ∧ p := by
  intro as' h
  rw [Tryd.params5] at h
  obtain ⟨a, b, rfl, ha, hb⟩ := tyargs2 h
  obtain ⟨n, l, t, k, rfl, hf⟩ := arg_el ha
  obtain ⟨i, rfl, _⟩ := arg_int Tryd.underlying3 hb
  exact ⟨_, rfl, l, k, rfl, rfl, hf⟩
end Go.Proofs.YtoobhfbamikanaaDoor
