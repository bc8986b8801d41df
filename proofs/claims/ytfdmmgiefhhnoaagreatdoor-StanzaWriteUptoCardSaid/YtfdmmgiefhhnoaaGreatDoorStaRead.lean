import Derived.Test.YtfdmmgiefhhnoaaGreatDoorStaIq
set_option linter.unusedSimpArgs false
set_option linter.unusedVariables false
namespace Go.Proofs.YtfdmmgiefhhnoaaGreatDoor
open Go Go.AM Go.RowKit
attribute [local irreducible] aCode
theorem RSound.weak0 {P : Program} {f : FuncId} {E E' : List AV → List Ob → (AV → List Ob → Prop) → Prop} (h : RSound P f E') (hE : ∀ al o q, E al o q → ∃ o', Weak ⟨al, o⟩ ⟨al, o'⟩ ∧ E' al o' q) : RSound P f E := by
  refine ⟨h.enter, fun X o gv al vs q g hgh hT hlen hrel hq => ?_⟩
  obtain ⟨o', hw, hE'⟩ := hE al o q hq
  have hs : SRel X.w ⟨X.obj, X.ext, gv⟩ X ⟨al, o⟩ { tmps := vs, defers := [] } := ⟨hlen, fun i hi => hrel i hi, rfl, g, rfl, ⟨rfl, rfl, rfl, Nat.le_refl _, fun _ _ _ => rfl⟩, fun b hb => .inl hb, hgh, hT⟩
  obtain ⟨X1, e1, hs1⟩ := hw _ _ _ _ hs
  have hcall := h.call X1 o' gv al vs _ hs1.g hs1.gh hs1.tabs hs1.len (fun i hi => hs1.slot i hi) hE'
  rw [e1] at hcall
  refine hcall.mono ?_
  rintro e w' ⟨v, av, o2, Y, rfl, hq3, rfl, gY, ghY, hv, hext, hfr, hown⟩
  have hsub : ∀ b, X1.obj b → X.obj b ∨ X.w.heap.size ≤ b := hs1.new
  exact ⟨v, av, o2, Y, rfl, hq3, rfl, gY, ghY, hv, hext.trans hs1.ext, ⟨hfr.os, hfr.tape, hfr.output, hfr.size, fun b hb hn => hfr.keep b hb fun hh => (hsub b hh).elim hn (by omega)⟩, fun b hb => (hown b hb).elim (hsub b) .inr⟩
theorem leL_refl : ∀ l : List AV, leL l l
  | [] => trivial
  | x :: l => by
    show leA x x (leL l l)
    have := leL_refl l
    unfold leA
    cases x <;> simp [this]
def dropO (args : List AV) (o : List Ob) : List Ob := mapI (fun i ob => match (stayO (clos o 64 (refsL args) []) (ghA false true args o) i ob).firmO with | true => ob | false => .gone) 0 o
theorem mapI_le (f : Nat → Ob → Ob) (h : ∀ i x, f i x = x ∨ f i x = .gone) : ∀ (k : Nat) (l : List Ob), leO l (mapI f k l)
  | k, [] => trivial
  | k, x :: l => ⟨(h k x).elim (fun e => .inr (.inl e.symm)) .inl, mapI_le f h (k + 1) l⟩
def frameD (E : List AV → List Ob → (AV → List Ob → Prop) → Prop) (args : List AV) (o : List Ob) (q : AV → List Ob → Prop) : Prop := chk (S.fits ⟨args, dropO args o⟩) (frameX E args (dropO args o) q)
theorem RSound.frameD {P : Program} {f : FuncId} {E : List AV → List Ob → (AV → List Ob → Prop) → Prop} (h : RSound P f E) : RSound P f (frameD E) :=
  RSound.weak0 (RSound.frameX h) fun al o q hq => by
    obtain ⟨h1, h2⟩ := chk_iff.1 hq
    refine ⟨dropO al o, weak_le ⟨leL_refl _, .inr ⟨mapI_le _ (fun i x => ?_) 0 o, h1⟩⟩, h2⟩
    split
    · exact .inl rfl
    · exact .inr rfl
theorem rPl (q : AV → List Ob → Prop) :
 (aCode KS [] Tryz.b22 (kRetF KS Tryz.f22.results.toList q) ⟨List.replicate (Tryz.f22.ntmps) .jk, []⟩) = (
 q (AV.mp 3) [Ob.map KK.str [(Key.s (⟨#[105, 100]⟩ : ByteArray), AV.fn (Fn.func 40) [] [])], Ob.map KK.str [(Key.s (⟨#[104]⟩ : ByteArray), AV.fn (Fn.func 42) [] [])], Ob.map KK.str [(Key.s (⟨#[104]⟩ : ByteArray), AV.fn (Fn.func 42) [] []), (Key.s (⟨#[112, 114, 101, 118, 105, 100]⟩ : ByteArray), AV.fn (Fn.func 40) [] [])], Ob.map KK.str [(Key.s (⟨#[101, 110, 97, 98, 108, 101]⟩ : ByteArray), AV.ag [mkI .i64 6, AV.d (D.v (.map Option.none)), AV.d (D.v (.map Option.none))]), (Key.s (⟨#[114]⟩ : ByteArray), AV.ag [mkI .i64 8, AV.d (D.v (.map Option.none)), AV.d (D.v (.map Option.none))]), (Key.s (⟨#[102, 97, 105, 108, 101, 100]⟩ : ByteArray), AV.ag [mkI .i64 12, AV.d (D.v (.map Option.none)), AV.d (D.v (.map Option.none))]), (Key.s (⟨#[97, 99, 116, 105, 118, 101]⟩ : ByteArray), AV.ag [mkI .i64 13, AV.d (D.v (.map Option.none)), AV.d (D.v (.map Option.none))]), (Key.s (⟨#[105, 110, 97, 99, 116, 105, 118, 101]⟩ : ByteArray), AV.ag [mkI .i64 14, AV.d (D.v (.map Option.none)), AV.d (D.v (.map Option.none))]), (Key.s (⟨#[101, 110, 97, 98, 108, 101, 100]⟩ : ByteArray), AV.ag [mkI .i64 7, AV.mp 0, AV.d (D.v (.map Option.none))]), (Key.s (⟨#[97]⟩ : ByteArray), AV.ag [mkI .i64 9, AV.mp 1, AV.d (D.v (.map Option.none))]), (Key.s (⟨#[114, 101, 115, 117, 109, 101]⟩ : ByteArray), AV.ag [mkI .i64 10, AV.mp 2, AV.d (D.v (.map Option.none))]), (Key.s (⟨#[114, 101, 115, 117, 109, 101, 100]⟩ : ByteArray), AV.ag [mkI .i64 11, AV.mp 2, AV.d (D.v (.map Option.none))])]]) := by kernel_rfl
def obsPl : List Ob := [.map .str [(Key.s kId, fnV 40)], .map .str [(Key.s kH, fnV 42)], .map .str [(Key.s kH, fnV 42), (Key.s kPrev, fnV 40)], .map .str [(Key.s sEnable, .ag [mkI .i64 6, nilM, nilM]), (Key.s sR, .ag [mkI .i64 8, nilM, nilM]), (Key.s sFailed, .ag [mkI .i64 12, nilM, nilM]), (Key.s sActive, .ag [mkI .i64 13, nilM, nilM]), (Key.s sInactive, .ag [mkI .i64 14, nilM, nilM]), (Key.s sEnabled, .ag [mkI .i64 7, .mp 0, nilM]), (Key.s sA, .ag [mkI .i64 9, .mp 1, nilM]), (Key.s sResume, .ag [mkI .i64 10, .mp 2, nilM]), (Key.s sResumed, .ag [mkI .i64 11, .mp 2, nilM])]]
def EPl : List AV → (AV → List Ob → Prop) → Prop := fun al q => al = [] ∧ q (.mp 3) obsPl
theorem cPl : NSound Tryz.prog 22 EPl := new_fnN id ghost_id mixed KS_ok gsound_nil Tryz.func22 rfl rfl Tryz.call22 fun al q ⟨h, hq⟩ => by
  subst h
  exact cast (rPl q).symm hq
inductive ShO : AV → List Ob → Tst → Prop where
  | z : ShO nilM obsZ []
  | id : ShO (.mp 0) obsId shId
  | h : ShO (.mp 0) obsH shH
  | both : ShO (.mp 0) obsBoth shBoth
def ESm : REnt := fun al o q => ∃ j x must n l t k, al = [.ag [mkI .i64 j, x, nilM], .ag [mkS n, .d (.sl (atsD l)), mkS t, .d (.sl (ksD k))]] ∧ ShO x o must ∧ (l.length ≤ LIM ∧ atsFit l) ∧ q (.tp [szV (simpleM j must (.mk n l t k)).1, mkI .i64 (simpleM j must (.mk n l t k)).2]) o
theorem cSm : RSound Tryz.prog 23 ESm := RSound.weak0 (RSound.or cSmZ (RSound.or cSmId (RSound.or cSmH cSmBoth))) fun al o q ⟨j, x, must, n, l, t, k, h1, h2, h3, h4⟩ => by
  refine ⟨o, Weak.refl _, ?_⟩
  cases h2 with
  | z => exact .inl ⟨j, n, l, t, k, h1, rfl, h3, h4⟩
  | id => exact .inr (.inl ⟨j, n, l, t, k, h1, rfl, h3, h4⟩)
  | h => exact .inr (.inr (.inl ⟨j, n, l, t, k, h1, rfl, h3, h4⟩))
  | both => exact .inr (.inr (.inr ⟨j, n, l, t, k, h1, rfl, h3, h4⟩))
noncomputable abbrev GRead : List (FuncId × En) := [(20, .pure EPres), (21, .pure EIq), (22, .new EPl), (23, .ref (frameD ESm))]
noncomputable abbrev rRead_e0 (q : AV → Prop) (n_1 : ByteArray) (l_1 : List At) (t_1 : ByteArray) (k_1 : List El) (j : Int) (must : Tst) : Prop := ((((List.length l_1) ≤ LIM) ∧ (∀ (a : At), (a ∈ l_1) → ((ByteArray.size (Prod.fst a)) ≤ LIM) ∧ ((ByteArray.size (Prod.snd a)) ≤ LIM))) ∧ (((Option.some (Ob.gh [])) = (Option.some (Ob.gh []))) ∧ (q (AV.tp [AV.ag [mkI .i64 (Sz.kind (Prod.fst (simpleM j must (El.mk n_1 l_1 t_1 k_1)))), mkS (Sz.ty (Prod.fst (simpleM j must (El.mk n_1 l_1 t_1 k_1)))), mkS (Sz.id (Prod.fst (simpleM j must (El.mk n_1 l_1 t_1 k_1)))), mkS (Sz.from_ (Prod.fst (simpleM j must (El.mk n_1 l_1 t_1 k_1)))), mkS (Sz.to_ (Prod.fst (simpleM j must (El.mk n_1 l_1 t_1 k_1)))), mkS (Sz.show_ (Prod.fst (simpleM j must (El.mk n_1 l_1 t_1 k_1)))), mkS (Sz.tok (Prod.fst (simpleM j must (El.mk n_1 l_1 t_1 k_1)))), mkS (Sz.rea (Prod.fst (simpleM j must (El.mk n_1 l_1 t_1 k_1)))), mkI .u32 (Sz.h (Prod.fst (simpleM j must (El.mk n_1 l_1 t_1 k_1)))), mkI .i64 (Sz.ver (Prod.fst (simpleM j must (El.mk n_1 l_1 t_1 k_1)))), mkB (Sz.rem (Prod.fst (simpleM j must (El.mk n_1 l_1 t_1 k_1)))), AV.d (.sl (itsD (Sz.its (Prod.fst (simpleM j must (El.mk n_1 l_1 t_1 k_1))))))], mkI .i64 (Prod.snd (simpleM j must (El.mk n_1 l_1 t_1 k_1)))]))))
theorem rRead (n : BA) (l : List At) (t : BA) (k : List El) (q : AV → Prop) :
 (aCode KS GRead Tryz.b11 (kRet KS Tryz.f11.results.toList q) ⟨[.ag [mkS n, .d (.sl (atsD l)), mkS t, .d (.sl (ksD k))]] ++ List.replicate (Tryz.f11.ntmps - 1) .jk, []⟩) = (
 bcase (decide (n = ⟨#[112, 114, 101, 115, 101, 110, 99, 101]⟩)) (
 ∃ (n_1 : ByteArray),
 ∃ (l_1 : List At),
 ∃ (t_1 : ByteArray),
 ∃ (k_1 : List El),
 ([AV.ag [mkS n, AV.d (.sl (atsD l)), mkS t, AV.d (.sl (ksD k))]] = [AV.ag [mkS n_1, AV.d (.sl (atsD l_1)), mkS t_1, AV.d (.sl (ksD k_1))]]) ∧
 ((((List.length l_1) ≤ LIM) ∧ (∀ (a : At), (a ∈ l_1) → ((ByteArray.size (Prod.fst a)) ≤ LIM) ∧ ((ByteArray.size (Prod.snd a)) ≤ LIM))) ∧ (∀ (e : El), (e ∈ k_1) → (ByteArray.size (El.t e)) ≤ LIM)) ∧
 q (AV.tp [AV.ag [mkI .i64 (Sz.kind (Prod.fst (presM (El.mk n_1 l_1 t_1 k_1)))), mkS (Sz.ty (Prod.fst (presM (El.mk n_1 l_1 t_1 k_1)))), mkS (Sz.id (Prod.fst (presM (El.mk n_1 l_1 t_1 k_1)))), mkS (Sz.from_ (Prod.fst (presM (El.mk n_1 l_1 t_1 k_1)))), mkS (Sz.to_ (Prod.fst (presM (El.mk n_1 l_1 t_1 k_1)))), mkS (Sz.show_ (Prod.fst (presM (El.mk n_1 l_1 t_1 k_1)))), mkS (Sz.tok (Prod.fst (presM (El.mk n_1 l_1 t_1 k_1)))), mkS (Sz.rea (Prod.fst (presM (El.mk n_1 l_1 t_1 k_1)))), mkI .u32 (Sz.h (Prod.fst (presM (El.mk n_1 l_1 t_1 k_1)))), mkI .i64 (Sz.ver (Prod.fst (presM (El.mk n_1 l_1 t_1 k_1)))), mkB (Sz.rem (Prod.fst (presM (El.mk n_1 l_1 t_1 k_1)))), AV.d (.sl (itsD (Sz.its (Prod.fst (presM (El.mk n_1 l_1 t_1 k_1))))))], mkI .i64 (Prod.snd (presM (El.mk n_1 l_1 t_1 k_1)))])) (
 bcase (decide (n = ⟨#[105, 113]⟩)) (
 ∃ (n_1 : ByteArray),
 ∃ (l_1 : List At),
 ∃ (t_1 : ByteArray),
 ∃ (k_1 : List El),
 ([AV.ag [mkS n, AV.d (.sl (atsD l)), mkS t, AV.d (.sl (ksD k))]] = [AV.ag [mkS n_1, AV.d (.sl (atsD l_1)), mkS t_1, AV.d (.sl (ksD k_1))]]) ∧
 (FitE (El.mk n_1 l_1 t_1 k_1)) ∧
 q (AV.tp [AV.ag [mkI .i64 (Sz.kind (Prod.fst (iqM (El.mk n_1 l_1 t_1 k_1)))), mkS (Sz.ty (Prod.fst (iqM (El.mk n_1 l_1 t_1 k_1)))), mkS (Sz.id (Prod.fst (iqM (El.mk n_1 l_1 t_1 k_1)))), mkS (Sz.from_ (Prod.fst (iqM (El.mk n_1 l_1 t_1 k_1)))), mkS (Sz.to_ (Prod.fst (iqM (El.mk n_1 l_1 t_1 k_1)))), mkS (Sz.show_ (Prod.fst (iqM (El.mk n_1 l_1 t_1 k_1)))), mkS (Sz.tok (Prod.fst (iqM (El.mk n_1 l_1 t_1 k_1)))), mkS (Sz.rea (Prod.fst (iqM (El.mk n_1 l_1 t_1 k_1)))), mkI .u32 (Sz.h (Prod.fst (iqM (El.mk n_1 l_1 t_1 k_1)))), mkI .i64 (Sz.ver (Prod.fst (iqM (El.mk n_1 l_1 t_1 k_1)))), mkB (Sz.rem (Prod.fst (iqM (El.mk n_1 l_1 t_1 k_1)))), AV.d (.sl (itsD (Sz.its (Prod.fst (iqM (El.mk n_1 l_1 t_1 k_1))))))], mkI .i64 (Prod.snd (iqM (El.mk n_1 l_1 t_1 k_1)))])) (
 ((([] : List AV) = []) ∧ (bcase (decide (sEnable = n)) (∃ (j : Int), ∃ (x : AV), ∃ (must : Tst), ∃ (n_1 : ByteArray), ∃ (l_1 : List At), ∃ (t_1 : ByteArray), ∃ (k_1 : List El), ([AV.ag [mkI .i64 6, AV.d (D.v (.map Option.none)), AV.d (D.v (.map Option.none))], AV.ag [mkS n, AV.d (.sl (atsD l)), mkS t, AV.d (.sl (ksD k))]] = [AV.ag [mkI .i64 j, x, AV.d (D.v (.map Option.none))], AV.ag [mkS n_1, AV.d (.sl (atsD l_1)), mkS t_1, AV.d (.sl (ksD k_1))]]) ∧ ((ShO x [Ob.gh []] must) ∧ (rRead_e0 q n_1 l_1 t_1 k_1 j must))) (bcase (decide (sR = n)) (∃ (j : Int), ∃ (x : AV), ∃ (must : Tst), ∃ (n_1 : ByteArray), ∃ (l_1 : List At), ∃ (t_1 : ByteArray), ∃ (k_1 : List El), ([AV.ag [mkI .i64 8, AV.d (D.v (.map Option.none)), AV.d (D.v (.map Option.none))], AV.ag [mkS n, AV.d (.sl (atsD l)), mkS t, AV.d (.sl (ksD k))]] = [AV.ag [mkI .i64 j, x, AV.d (D.v (.map Option.none))], AV.ag [mkS n_1, AV.d (.sl (atsD l_1)), mkS t_1, AV.d (.sl (ksD k_1))]]) ∧ ((ShO x [Ob.gh []] must) ∧ (rRead_e0 q n_1 l_1 t_1 k_1 j must))) (bcase (decide (sFailed = n)) (∃ (j : Int), ∃ (x : AV), ∃ (must : Tst), ∃ (n_1 : ByteArray), ∃ (l_1 : List At), ∃ (t_1 : ByteArray), ∃ (k_1 : List El), ([AV.ag [mkI .i64 12, AV.d (D.v (.map Option.none)), AV.d (D.v (.map Option.none))], AV.ag [mkS n, AV.d (.sl (atsD l)), mkS t, AV.d (.sl (ksD k))]] = [AV.ag [mkI .i64 j, x, AV.d (D.v (.map Option.none))], AV.ag [mkS n_1, AV.d (.sl (atsD l_1)), mkS t_1, AV.d (.sl (ksD k_1))]]) ∧ ((ShO x [Ob.gh []] must) ∧ (rRead_e0 q n_1 l_1 t_1 k_1 j must))) (bcase (decide (sActive = n)) (∃ (j : Int), ∃ (x : AV), ∃ (must : Tst), ∃ (n_1 : ByteArray), ∃ (l_1 : List At), ∃ (t_1 : ByteArray), ∃ (k_1 : List El), ([AV.ag [mkI .i64 13, AV.d (D.v (.map Option.none)), AV.d (D.v (.map Option.none))], AV.ag [mkS n, AV.d (.sl (atsD l)), mkS t, AV.d (.sl (ksD k))]] = [AV.ag [mkI .i64 j, x, AV.d (D.v (.map Option.none))], AV.ag [mkS n_1, AV.d (.sl (atsD l_1)), mkS t_1, AV.d (.sl (ksD k_1))]]) ∧ ((ShO x [Ob.gh []] must) ∧ (rRead_e0 q n_1 l_1 t_1 k_1 j must))) (bcase (decide (sInactive = n)) (∃ (j : Int), ∃ (x : AV), ∃ (must : Tst), ∃ (n_1 : ByteArray), ∃ (l_1 : List At), ∃ (t_1 : ByteArray), ∃ (k_1 : List El), ([AV.ag [mkI .i64 14, AV.d (D.v (.map Option.none)), AV.d (D.v (.map Option.none))], AV.ag [mkS n, AV.d (.sl (atsD l)), mkS t, AV.d (.sl (ksD k))]] = [AV.ag [mkI .i64 j, x, AV.d (D.v (.map Option.none))], AV.ag [mkS n_1, AV.d (.sl (atsD l_1)), mkS t_1, AV.d (.sl (ksD k_1))]]) ∧ ((ShO x [Ob.gh []] must) ∧ (rRead_e0 q n_1 l_1 t_1 k_1 j must))) (bcase (decide (sEnabled = n)) (∃ (j : Int), ∃ (x : AV), ∃ (must : Tst), ∃ (n_1 : ByteArray), ∃ (l_1 : List At), ∃ (t_1 : ByteArray), ∃ (k_1 : List El), ([AV.ag [mkI .i64 7, AV.mp 0, AV.d (D.v (.map Option.none))], AV.ag [mkS n, AV.d (.sl (atsD l)), mkS t, AV.d (.sl (ksD k))]] = [AV.ag [mkI .i64 j, x, AV.d (D.v (.map Option.none))], AV.ag [mkS n_1, AV.d (.sl (atsD l_1)), mkS t_1, AV.d (.sl (ksD k_1))]]) ∧ ((ShO x [Ob.map KK.str [(Key.s kId, AV.fn (Fn.func 40) [] [])], Ob.gh []] must) ∧ (rRead_e0 q n_1 l_1 t_1 k_1 j must))) (bcase (decide (sA = n)) (∃ (j : Int), ∃ (x : AV), ∃ (must : Tst), ∃ (n_1 : ByteArray), ∃ (l_1 : List At), ∃ (t_1 : ByteArray), ∃ (k_1 : List El), ([AV.ag [mkI .i64 9, AV.mp 0, AV.d (D.v (.map Option.none))], AV.ag [mkS n, AV.d (.sl (atsD l)), mkS t, AV.d (.sl (ksD k))]] = [AV.ag [mkI .i64 j, x, AV.d (D.v (.map Option.none))], AV.ag [mkS n_1, AV.d (.sl (atsD l_1)), mkS t_1, AV.d (.sl (ksD k_1))]]) ∧ ((ShO x [Ob.map KK.str [(Key.s kH, AV.fn (Fn.func 42) [] [])], Ob.gh []] must) ∧ (rRead_e0 q n_1 l_1 t_1 k_1 j must))) (bcase (decide (sResume = n)) (∃ (j : Int), ∃ (x : AV), ∃ (must : Tst), ∃ (n_1 : ByteArray), ∃ (l_1 : List At), ∃ (t_1 : ByteArray), ∃ (k_1 : List El), ([AV.ag [mkI .i64 10, AV.mp 0, AV.d (D.v (.map Option.none))], AV.ag [mkS n, AV.d (.sl (atsD l)), mkS t, AV.d (.sl (ksD k))]] = [AV.ag [mkI .i64 j, x, AV.d (D.v (.map Option.none))], AV.ag [mkS n_1, AV.d (.sl (atsD l_1)), mkS t_1, AV.d (.sl (ksD k_1))]]) ∧ ((ShO x [Ob.map KK.str [(Key.s kH, AV.fn (Fn.func 42) [] []), (Key.s kPrev, AV.fn (Fn.func 40) [] [])], Ob.gh []] must) ∧ (rRead_e0 q n_1 l_1 t_1 k_1 j must))) (bcase (decide (sResumed = n)) (∃ (j : Int), ∃ (x : AV), ∃ (must : Tst), ∃ (n_1 : ByteArray), ∃ (l_1 : List At), ∃ (t_1 : ByteArray), ∃ (k_1 : List El), ([AV.ag [mkI .i64 11, AV.mp 0, AV.d (D.v (.map Option.none))], AV.ag [mkS n, AV.d (.sl (atsD l)), mkS t, AV.d (.sl (ksD k))]] = [AV.ag [mkI .i64 j, x, AV.d (D.v (.map Option.none))], AV.ag [mkS n_1, AV.d (.sl (atsD l_1)), mkS t_1, AV.d (.sl (ksD k_1))]]) ∧ ((ShO x [Ob.map KK.str [(Key.s kH, AV.fn (Fn.func 42) [] []), (Key.s kPrev, AV.fn (Fn.func 40) [] [])], Ob.gh []] must) ∧ (rRead_e0 q n_1 l_1 t_1 k_1 j must))) (q (AV.tp [AV.ag [mkI .i64 0, mkS ⟨#[]⟩, mkS ⟨#[]⟩, mkS ⟨#[]⟩, mkS ⟨#[]⟩, mkS ⟨#[]⟩, mkS ⟨#[]⟩, mkS ⟨#[]⟩, mkI .u32 0, mkI .i64 0, mkB false, AV.d (.sl [])], mkI .i64 6])))))))))))) ∧
 (([] : List AV) = []) ∧
 bcase (decide (sEnable = n)) (
 ∃ (j : Int),
 ∃ (x : AV),
 ∃ (must : Tst),
 ∃ (n_1 : ByteArray),
 ∃ (l_1 : List At),
 ∃ (t_1 : ByteArray),
 ∃ (k_1 : List El),
 ([AV.ag [mkI .i64 6, AV.d (D.v (.map Option.none)), AV.d (D.v (.map Option.none))], AV.ag [mkS n, AV.d (.sl (atsD l)), mkS t, AV.d (.sl (ksD k))]] = [AV.ag [mkI .i64 j, x, AV.d (D.v (.map Option.none))], AV.ag [mkS n_1, AV.d (.sl (atsD l_1)), mkS t_1, AV.d (.sl (ksD k_1))]]) ∧
 (ShO x [Ob.gh []] must) ∧
 (((List.length l_1) ≤ LIM) ∧ (∀ (a : At), (a ∈ l_1) → ((ByteArray.size (Prod.fst a)) ≤ LIM) ∧ ((ByteArray.size (Prod.snd a)) ≤ LIM))) ∧
 ((Option.some (Ob.gh [])) = (Option.some (Ob.gh []))) ∧
 q (AV.tp [AV.ag [mkI .i64 (Sz.kind (Prod.fst (simpleM j must (El.mk n_1 l_1 t_1 k_1)))), mkS (Sz.ty (Prod.fst (simpleM j must (El.mk n_1 l_1 t_1 k_1)))), mkS (Sz.id (Prod.fst (simpleM j must (El.mk n_1 l_1 t_1 k_1)))), mkS (Sz.from_ (Prod.fst (simpleM j must (El.mk n_1 l_1 t_1 k_1)))), mkS (Sz.to_ (Prod.fst (simpleM j must (El.mk n_1 l_1 t_1 k_1)))), mkS (Sz.show_ (Prod.fst (simpleM j must (El.mk n_1 l_1 t_1 k_1)))), mkS (Sz.tok (Prod.fst (simpleM j must (El.mk n_1 l_1 t_1 k_1)))), mkS (Sz.rea (Prod.fst (simpleM j must (El.mk n_1 l_1 t_1 k_1)))), mkI .u32 (Sz.h (Prod.fst (simpleM j must (El.mk n_1 l_1 t_1 k_1)))), mkI .i64 (Sz.ver (Prod.fst (simpleM j must (El.mk n_1 l_1 t_1 k_1)))), mkB (Sz.rem (Prod.fst (simpleM j must (El.mk n_1 l_1 t_1 k_1)))), AV.d (.sl (itsD (Sz.its (Prod.fst (simpleM j must (El.mk n_1 l_1 t_1 k_1))))))], mkI .i64 (Prod.snd (simpleM j must (El.mk n_1 l_1 t_1 k_1)))])) (
 bcase (decide (sR = n)) (
 ∃ (j : Int),
 ∃ (x : AV),
 ∃ (must : Tst),
 ∃ (n_1 : ByteArray),
 ∃ (l_1 : List At),
 ∃ (t_1 : ByteArray),
 ∃ (k_1 : List El),
 ([AV.ag [mkI .i64 8, AV.d (D.v (.map Option.none)), AV.d (D.v (.map Option.none))], AV.ag [mkS n, AV.d (.sl (atsD l)), mkS t, AV.d (.sl (ksD k))]] = [AV.ag [mkI .i64 j, x, AV.d (D.v (.map Option.none))], AV.ag [mkS n_1, AV.d (.sl (atsD l_1)), mkS t_1, AV.d (.sl (ksD k_1))]]) ∧
 (ShO x [Ob.gh []] must) ∧
 (((List.length l_1) ≤ LIM) ∧ (∀ (a : At), (a ∈ l_1) → ((ByteArray.size (Prod.fst a)) ≤ LIM) ∧ ((ByteArray.size (Prod.snd a)) ≤ LIM))) ∧
 ((Option.some (Ob.gh [])) = (Option.some (Ob.gh []))) ∧
 q (AV.tp [AV.ag [mkI .i64 (Sz.kind (Prod.fst (simpleM j must (El.mk n_1 l_1 t_1 k_1)))), mkS (Sz.ty (Prod.fst (simpleM j must (El.mk n_1 l_1 t_1 k_1)))), mkS (Sz.id (Prod.fst (simpleM j must (El.mk n_1 l_1 t_1 k_1)))), mkS (Sz.from_ (Prod.fst (simpleM j must (El.mk n_1 l_1 t_1 k_1)))), mkS (Sz.to_ (Prod.fst (simpleM j must (El.mk n_1 l_1 t_1 k_1)))), mkS (Sz.show_ (Prod.fst (simpleM j must (El.mk n_1 l_1 t_1 k_1)))), mkS (Sz.tok (Prod.fst (simpleM j must (El.mk n_1 l_1 t_1 k_1)))), mkS (Sz.rea (Prod.fst (simpleM j must (El.mk n_1 l_1 t_1 k_1)))), mkI .u32 (Sz.h (Prod.fst (simpleM j must (El.mk n_1 l_1 t_1 k_1)))), mkI .i64 (Sz.ver (Prod.fst (simpleM j must (El.mk n_1 l_1 t_1 k_1)))), mkB (Sz.rem (Prod.fst (simpleM j must (El.mk n_1 l_1 t_1 k_1)))), AV.d (.sl (itsD (Sz.its (Prod.fst (simpleM j must (El.mk n_1 l_1 t_1 k_1))))))], mkI .i64 (Prod.snd (simpleM j must (El.mk n_1 l_1 t_1 k_1)))])) (
 bcase (decide (sFailed = n)) (
 ∃ (j : Int),
 ∃ (x : AV),
 ∃ (must : Tst),
 ∃ (n_1 : ByteArray),
 ∃ (l_1 : List At),
 ∃ (t_1 : ByteArray),
 ∃ (k_1 : List El),
 ([AV.ag [mkI .i64 12, AV.d (D.v (.map Option.none)), AV.d (D.v (.map Option.none))], AV.ag [mkS n, AV.d (.sl (atsD l)), mkS t, AV.d (.sl (ksD k))]] = [AV.ag [mkI .i64 j, x, AV.d (D.v (.map Option.none))], AV.ag [mkS n_1, AV.d (.sl (atsD l_1)), mkS t_1, AV.d (.sl (ksD k_1))]]) ∧
 (ShO x [Ob.gh []] must) ∧
 (((List.length l_1) ≤ LIM) ∧ (∀ (a : At), (a ∈ l_1) → ((ByteArray.size (Prod.fst a)) ≤ LIM) ∧ ((ByteArray.size (Prod.snd a)) ≤ LIM))) ∧
 ((Option.some (Ob.gh [])) = (Option.some (Ob.gh []))) ∧
 q (AV.tp [AV.ag [mkI .i64 (Sz.kind (Prod.fst (simpleM j must (El.mk n_1 l_1 t_1 k_1)))), mkS (Sz.ty (Prod.fst (simpleM j must (El.mk n_1 l_1 t_1 k_1)))), mkS (Sz.id (Prod.fst (simpleM j must (El.mk n_1 l_1 t_1 k_1)))), mkS (Sz.from_ (Prod.fst (simpleM j must (El.mk n_1 l_1 t_1 k_1)))), mkS (Sz.to_ (Prod.fst (simpleM j must (El.mk n_1 l_1 t_1 k_1)))), mkS (Sz.show_ (Prod.fst (simpleM j must (El.mk n_1 l_1 t_1 k_1)))), mkS (Sz.tok (Prod.fst (simpleM j must (El.mk n_1 l_1 t_1 k_1)))), mkS (Sz.rea (Prod.fst (simpleM j must (El.mk n_1 l_1 t_1 k_1)))), mkI .u32 (Sz.h (Prod.fst (simpleM j must (El.mk n_1 l_1 t_1 k_1)))), mkI .i64 (Sz.ver (Prod.fst (simpleM j must (El.mk n_1 l_1 t_1 k_1)))), mkB (Sz.rem (Prod.fst (simpleM j must (El.mk n_1 l_1 t_1 k_1)))), AV.d (.sl (itsD (Sz.its (Prod.fst (simpleM j must (El.mk n_1 l_1 t_1 k_1))))))], mkI .i64 (Prod.snd (simpleM j must (El.mk n_1 l_1 t_1 k_1)))])) (
 bcase (decide (sActive = n)) (
 ∃ (j : Int),
 ∃ (x : AV),
 ∃ (must : Tst),
 ∃ (n_1 : ByteArray),
 ∃ (l_1 : List At),
 ∃ (t_1 : ByteArray),
 ∃ (k_1 : List El),
 ([AV.ag [mkI .i64 13, AV.d (D.v (.map Option.none)), AV.d (D.v (.map Option.none))], AV.ag [mkS n, AV.d (.sl (atsD l)), mkS t, AV.d (.sl (ksD k))]] = [AV.ag [mkI .i64 j, x, AV.d (D.v (.map Option.none))], AV.ag [mkS n_1, AV.d (.sl (atsD l_1)), mkS t_1, AV.d (.sl (ksD k_1))]]) ∧
 (ShO x [Ob.gh []] must) ∧
 (((List.length l_1) ≤ LIM) ∧ (∀ (a : At), (a ∈ l_1) → ((ByteArray.size (Prod.fst a)) ≤ LIM) ∧ ((ByteArray.size (Prod.snd a)) ≤ LIM))) ∧
 ((Option.some (Ob.gh [])) = (Option.some (Ob.gh []))) ∧
 q (AV.tp [AV.ag [mkI .i64 (Sz.kind (Prod.fst (simpleM j must (El.mk n_1 l_1 t_1 k_1)))), mkS (Sz.ty (Prod.fst (simpleM j must (El.mk n_1 l_1 t_1 k_1)))), mkS (Sz.id (Prod.fst (simpleM j must (El.mk n_1 l_1 t_1 k_1)))), mkS (Sz.from_ (Prod.fst (simpleM j must (El.mk n_1 l_1 t_1 k_1)))), mkS (Sz.to_ (Prod.fst (simpleM j must (El.mk n_1 l_1 t_1 k_1)))), mkS (Sz.show_ (Prod.fst (simpleM j must (El.mk n_1 l_1 t_1 k_1)))), mkS (Sz.tok (Prod.fst (simpleM j must (El.mk n_1 l_1 t_1 k_1)))), mkS (Sz.rea (Prod.fst (simpleM j must (El.mk n_1 l_1 t_1 k_1)))), mkI .u32 (Sz.h (Prod.fst (simpleM j must (El.mk n_1 l_1 t_1 k_1)))), mkI .i64 (Sz.ver (Prod.fst (simpleM j must (El.mk n_1 l_1 t_1 k_1)))), mkB (Sz.rem (Prod.fst (simpleM j must (El.mk n_1 l_1 t_1 k_1)))), AV.d (.sl (itsD (Sz.its (Prod.fst (simpleM j must (El.mk n_1 l_1 t_1 k_1))))))], mkI .i64 (Prod.snd (simpleM j must (El.mk n_1 l_1 t_1 k_1)))])) (
 bcase (decide (sInactive = n)) (
 ∃ (j : Int),
 ∃ (x : AV),
 ∃ (must : Tst),
 ∃ (n_1 : ByteArray),
 ∃ (l_1 : List At),
 ∃ (t_1 : ByteArray),
 ∃ (k_1 : List El),
 ([AV.ag [mkI .i64 14, AV.d (D.v (.map Option.none)), AV.d (D.v (.map Option.none))], AV.ag [mkS n, AV.d (.sl (atsD l)), mkS t, AV.d (.sl (ksD k))]] = [AV.ag [mkI .i64 j, x, AV.d (D.v (.map Option.none))], AV.ag [mkS n_1, AV.d (.sl (atsD l_1)), mkS t_1, AV.d (.sl (ksD k_1))]]) ∧
 (ShO x [Ob.gh []] must) ∧
 (((List.length l_1) ≤ LIM) ∧ (∀ (a : At), (a ∈ l_1) → ((ByteArray.size (Prod.fst a)) ≤ LIM) ∧ ((ByteArray.size (Prod.snd a)) ≤ LIM))) ∧
 ((Option.some (Ob.gh [])) = (Option.some (Ob.gh []))) ∧
 q (AV.tp [AV.ag [mkI .i64 (Sz.kind (Prod.fst (simpleM j must (El.mk n_1 l_1 t_1 k_1)))), mkS (Sz.ty (Prod.fst (simpleM j must (El.mk n_1 l_1 t_1 k_1)))), mkS (Sz.id (Prod.fst (simpleM j must (El.mk n_1 l_1 t_1 k_1)))), mkS (Sz.from_ (Prod.fst (simpleM j must (El.mk n_1 l_1 t_1 k_1)))), mkS (Sz.to_ (Prod.fst (simpleM j must (El.mk n_1 l_1 t_1 k_1)))), mkS (Sz.show_ (Prod.fst (simpleM j must (El.mk n_1 l_1 t_1 k_1)))), mkS (Sz.tok (Prod.fst (simpleM j must (El.mk n_1 l_1 t_1 k_1)))), mkS (Sz.rea (Prod.fst (simpleM j must (El.mk n_1 l_1 t_1 k_1)))), mkI .u32 (Sz.h (Prod.fst (simpleM j must (El.mk n_1 l_1 t_1 k_1)))), mkI .i64 (Sz.ver (Prod.fst (simpleM j must (El.mk n_1 l_1 t_1 k_1)))), mkB (Sz.rem (Prod.fst (simpleM j must (El.mk n_1 l_1 t_1 k_1)))), AV.d (.sl (itsD (Sz.its (Prod.fst (simpleM j must (El.mk n_1 l_1 t_1 k_1))))))], mkI .i64 (Prod.snd (simpleM j must (El.mk n_1 l_1 t_1 k_1)))])) (
 bcase (decide (sEnabled = n)) (
 ∃ (j : Int),
 ∃ (x : AV),
 ∃ (must : Tst),
 ∃ (n_1 : ByteArray),
 ∃ (l_1 : List At),
 ∃ (t_1 : ByteArray),
 ∃ (k_1 : List El),
 ([AV.ag [mkI .i64 7, AV.mp 0, AV.d (D.v (.map Option.none))], AV.ag [mkS n, AV.d (.sl (atsD l)), mkS t, AV.d (.sl (ksD k))]] = [AV.ag [mkI .i64 j, x, AV.d (D.v (.map Option.none))], AV.ag [mkS n_1, AV.d (.sl (atsD l_1)), mkS t_1, AV.d (.sl (ksD k_1))]]) ∧
 (ShO x [Ob.map KK.str [(Key.s kId, AV.fn (Fn.func 40) [] [])], Ob.gh []] must) ∧
 (((List.length l_1) ≤ LIM) ∧ (∀ (a : At), (a ∈ l_1) → ((ByteArray.size (Prod.fst a)) ≤ LIM) ∧ ((ByteArray.size (Prod.snd a)) ≤ LIM))) ∧
 ((Option.some (Ob.gh [])) = (Option.some (Ob.gh []))) ∧
 q (AV.tp [AV.ag [mkI .i64 (Sz.kind (Prod.fst (simpleM j must (El.mk n_1 l_1 t_1 k_1)))), mkS (Sz.ty (Prod.fst (simpleM j must (El.mk n_1 l_1 t_1 k_1)))), mkS (Sz.id (Prod.fst (simpleM j must (El.mk n_1 l_1 t_1 k_1)))), mkS (Sz.from_ (Prod.fst (simpleM j must (El.mk n_1 l_1 t_1 k_1)))), mkS (Sz.to_ (Prod.fst (simpleM j must (El.mk n_1 l_1 t_1 k_1)))), mkS (Sz.show_ (Prod.fst (simpleM j must (El.mk n_1 l_1 t_1 k_1)))), mkS (Sz.tok (Prod.fst (simpleM j must (El.mk n_1 l_1 t_1 k_1)))), mkS (Sz.rea (Prod.fst (simpleM j must (El.mk n_1 l_1 t_1 k_1)))), mkI .u32 (Sz.h (Prod.fst (simpleM j must (El.mk n_1 l_1 t_1 k_1)))), mkI .i64 (Sz.ver (Prod.fst (simpleM j must (El.mk n_1 l_1 t_1 k_1)))), mkB (Sz.rem (Prod.fst (simpleM j must (El.mk n_1 l_1 t_1 k_1)))), AV.d (.sl (itsD (Sz.its (Prod.fst (simpleM j must (El.mk n_1 l_1 t_1 k_1))))))], mkI .i64 (Prod.snd (simpleM j must (El.mk n_1 l_1 t_1 k_1)))])) (
 bcase (decide (sA = n)) (
 ∃ (j : Int),
 ∃ (x : AV),
 ∃ (must : Tst),
 ∃ (n_1 : ByteArray),
 ∃ (l_1 : List At),
 ∃ (t_1 : ByteArray),
 ∃ (k_1 : List El),
 ([AV.ag [mkI .i64 9, AV.mp 0, AV.d (D.v (.map Option.none))], AV.ag [mkS n, AV.d (.sl (atsD l)), mkS t, AV.d (.sl (ksD k))]] = [AV.ag [mkI .i64 j, x, AV.d (D.v (.map Option.none))], AV.ag [mkS n_1, AV.d (.sl (atsD l_1)), mkS t_1, AV.d (.sl (ksD k_1))]]) ∧
 (ShO x [Ob.map KK.str [(Key.s kH, AV.fn (Fn.func 42) [] [])], Ob.gh []] must) ∧
 (((List.length l_1) ≤ LIM) ∧ (∀ (a : At), (a ∈ l_1) → ((ByteArray.size (Prod.fst a)) ≤ LIM) ∧ ((ByteArray.size (Prod.snd a)) ≤ LIM))) ∧
 ((Option.some (Ob.gh [])) = (Option.some (Ob.gh []))) ∧
 q (AV.tp [AV.ag [mkI .i64 (Sz.kind (Prod.fst (simpleM j must (El.mk n_1 l_1 t_1 k_1)))), mkS (Sz.ty (Prod.fst (simpleM j must (El.mk n_1 l_1 t_1 k_1)))), mkS (Sz.id (Prod.fst (simpleM j must (El.mk n_1 l_1 t_1 k_1)))), mkS (Sz.from_ (Prod.fst (simpleM j must (El.mk n_1 l_1 t_1 k_1)))), mkS (Sz.to_ (Prod.fst (simpleM j must (El.mk n_1 l_1 t_1 k_1)))), mkS (Sz.show_ (Prod.fst (simpleM j must (El.mk n_1 l_1 t_1 k_1)))), mkS (Sz.tok (Prod.fst (simpleM j must (El.mk n_1 l_1 t_1 k_1)))), mkS (Sz.rea (Prod.fst (simpleM j must (El.mk n_1 l_1 t_1 k_1)))), mkI .u32 (Sz.h (Prod.fst (simpleM j must (El.mk n_1 l_1 t_1 k_1)))), mkI .i64 (Sz.ver (Prod.fst (simpleM j must (El.mk n_1 l_1 t_1 k_1)))), mkB (Sz.rem (Prod.fst (simpleM j must (El.mk n_1 l_1 t_1 k_1)))), AV.d (.sl (itsD (Sz.its (Prod.fst (simpleM j must (El.mk n_1 l_1 t_1 k_1))))))], mkI .i64 (Prod.snd (simpleM j must (El.mk n_1 l_1 t_1 k_1)))])) (
 bcase (decide (sResume = n)) (
 ∃ (j : Int),
 ∃ (x : AV),
 ∃ (must : Tst),
 ∃ (n_1 : ByteArray),
 ∃ (l_1 : List At),
 ∃ (t_1 : ByteArray),
 ∃ (k_1 : List El),
 ([AV.ag [mkI .i64 10, AV.mp 0, AV.d (D.v (.map Option.none))], AV.ag [mkS n, AV.d (.sl (atsD l)), mkS t, AV.d (.sl (ksD k))]] = [AV.ag [mkI .i64 j, x, AV.d (D.v (.map Option.none))], AV.ag [mkS n_1, AV.d (.sl (atsD l_1)), mkS t_1, AV.d (.sl (ksD k_1))]]) ∧
 (ShO x [Ob.map KK.str [(Key.s kH, AV.fn (Fn.func 42) [] []), (Key.s kPrev, AV.fn (Fn.func 40) [] [])], Ob.gh []] must) ∧
 (((List.length l_1) ≤ LIM) ∧ (∀ (a : At), (a ∈ l_1) → ((ByteArray.size (Prod.fst a)) ≤ LIM) ∧ ((ByteArray.size (Prod.snd a)) ≤ LIM))) ∧
 ((Option.some (Ob.gh [])) = (Option.some (Ob.gh []))) ∧
 q (AV.tp [AV.ag [mkI .i64 (Sz.kind (Prod.fst (simpleM j must (El.mk n_1 l_1 t_1 k_1)))), mkS (Sz.ty (Prod.fst (simpleM j must (El.mk n_1 l_1 t_1 k_1)))), mkS (Sz.id (Prod.fst (simpleM j must (El.mk n_1 l_1 t_1 k_1)))), mkS (Sz.from_ (Prod.fst (simpleM j must (El.mk n_1 l_1 t_1 k_1)))), mkS (Sz.to_ (Prod.fst (simpleM j must (El.mk n_1 l_1 t_1 k_1)))), mkS (Sz.show_ (Prod.fst (simpleM j must (El.mk n_1 l_1 t_1 k_1)))), mkS (Sz.tok (Prod.fst (simpleM j must (El.mk n_1 l_1 t_1 k_1)))), mkS (Sz.rea (Prod.fst (simpleM j must (El.mk n_1 l_1 t_1 k_1)))), mkI .u32 (Sz.h (Prod.fst (simpleM j must (El.mk n_1 l_1 t_1 k_1)))), mkI .i64 (Sz.ver (Prod.fst (simpleM j must (El.mk n_1 l_1 t_1 k_1)))), mkB (Sz.rem (Prod.fst (simpleM j must (El.mk n_1 l_1 t_1 k_1)))), AV.d (.sl (itsD (Sz.its (Prod.fst (simpleM j must (El.mk n_1 l_1 t_1 k_1))))))], mkI .i64 (Prod.snd (simpleM j must (El.mk n_1 l_1 t_1 k_1)))])) (
 bcase (decide (sResumed = n)) (
 ∃ (j : Int),
 ∃ (x : AV),
 ∃ (must : Tst),
 ∃ (n_1 : ByteArray),
 ∃ (l_1 : List At),
 ∃ (t_1 : ByteArray),
 ∃ (k_1 : List El),
 ([AV.ag [mkI .i64 11, AV.mp 0, AV.d (D.v (.map Option.none))], AV.ag [mkS n, AV.d (.sl (atsD l)), mkS t, AV.d (.sl (ksD k))]] = [AV.ag [mkI .i64 j, x, AV.d (D.v (.map Option.none))], AV.ag [mkS n_1, AV.d (.sl (atsD l_1)), mkS t_1, AV.d (.sl (ksD k_1))]]) ∧
 (ShO x [Ob.map KK.str [(Key.s kH, AV.fn (Fn.func 42) [] []), (Key.s kPrev, AV.fn (Fn.func 40) [] [])], Ob.gh []] must) ∧
 (((List.length l_1) ≤ LIM) ∧ (∀ (a : At), (a ∈ l_1) → ((ByteArray.size (Prod.fst a)) ≤ LIM) ∧ ((ByteArray.size (Prod.snd a)) ≤ LIM))) ∧
 ((Option.some (Ob.gh [])) = (Option.some (Ob.gh []))) ∧
 q (AV.tp [AV.ag [mkI .i64 (Sz.kind (Prod.fst (simpleM j must (El.mk n_1 l_1 t_1 k_1)))), mkS (Sz.ty (Prod.fst (simpleM j must (El.mk n_1 l_1 t_1 k_1)))), mkS (Sz.id (Prod.fst (simpleM j must (El.mk n_1 l_1 t_1 k_1)))), mkS (Sz.from_ (Prod.fst (simpleM j must (El.mk n_1 l_1 t_1 k_1)))), mkS (Sz.to_ (Prod.fst (simpleM j must (El.mk n_1 l_1 t_1 k_1)))), mkS (Sz.show_ (Prod.fst (simpleM j must (El.mk n_1 l_1 t_1 k_1)))), mkS (Sz.tok (Prod.fst (simpleM j must (El.mk n_1 l_1 t_1 k_1)))), mkS (Sz.rea (Prod.fst (simpleM j must (El.mk n_1 l_1 t_1 k_1)))), mkI .u32 (Sz.h (Prod.fst (simpleM j must (El.mk n_1 l_1 t_1 k_1)))), mkI .i64 (Sz.ver (Prod.fst (simpleM j must (El.mk n_1 l_1 t_1 k_1)))), mkB (Sz.rem (Prod.fst (simpleM j must (El.mk n_1 l_1 t_1 k_1)))), AV.d (.sl (itsD (Sz.its (Prod.fst (simpleM j must (El.mk n_1 l_1 t_1 k_1))))))], mkI .i64 (Prod.snd (simpleM j must (El.mk n_1 l_1 t_1 k_1)))])) (
 q (AV.tp [AV.ag [mkI .i64 0, mkS ⟨#[]⟩, mkS ⟨#[]⟩, mkS ⟨#[]⟩, mkS ⟨#[]⟩, mkS ⟨#[]⟩, mkS ⟨#[]⟩, mkS ⟨#[]⟩, mkI .u32 0, mkI .i64 0, mkB false, AV.d (.sl [])], mkI .i64 6]))))))))))))) := by kernel_rfl
def ERead : List AV → (AV → Prop) → Prop := fun al q => ∃ n l t k, al = [.ag [mkS n, .d (.sl (atsD l)), mkS t, .d (.sl (ksD k))]] ∧ FitE (.mk n l t k) ∧ q (.tp [szV (readM (.mk n l t k)).1, mkI .i64 (readM (.mk n l t k)).2])
theorem grd_ok : GSound Tryz.prog GRead := gsound_pure cPres (gsound_pure cIq (gsound_new cPl (gsound_ref (RSound.frameD cSm) gsound_nil)))
theorem cStRead : PSound Tryz.prog 11 ERead := by
  refine pure_fn (c := Tryz.b11) mixed KS_ok grd_ok Tryz.func11 rfl rfl Tryz.call11 fun al q ⟨n, l, t, k, h1, hf, hq⟩ => ?_
  subst h1
  have hfa := El.fit_ats hf.ok
  refine cast (rRead n l t k q).symm (bcase_dec (fun g1 => ?_) (fun g1 => bcase_dec (fun g2 => ?_) (fun g2 => ?_)))
  · have e : readM (.mk n l t k) = presM (.mk n l t k) := if_pos g1
    rw [e] at hq
    exact ⟨n, l, t, k, rfl, ⟨hfa, fun e he => El.fit_t (fitK_mem (El.fit_ks hf.ok) e he)⟩, hq⟩
  · have e : readM (.mk n l t k) = iqM (.mk n l t k) := (if_neg g1).trans (if_pos g2)
    rw [e] at hq
    exact ⟨n, l, t, k, rfl, hf, hq⟩
  · have g1 : ¬ n = sPresence := g1
    have g2 : ¬ n = sIq := g2
    have sim : ∀ (m : BA) (j : Int) (must : Tst), m = n → plainsM m = some (j, must) → q (.tp [szV (simpleM j must (.mk n l t k)).1, mkI .i64 (simpleM j must (.mk n l t k)).2]) := fun m j must h0 h => by
      subst h0
      have e : readM (.mk m l t k) = simpleM j must (.mk m l t k) := by
        unfold readM; rw [El.n_mk, if_neg g1, if_neg g2, h]
      rw [e] at hq; exact hq
    refine ⟨⟨rfl, ?_⟩, rfl, ?_⟩
    all_goals
      refine bcase_dec (fun a1 => ⟨_, _, _, n, l, t, k, rfl, .z, hfa, rfl, sim _ _ _ a1 rfl⟩) (fun a1 => ?_)
      refine bcase_dec (fun a2 => ⟨_, _, _, n, l, t, k, rfl, .z, hfa, rfl, sim _ _ _ a2 rfl⟩) (fun a2 => ?_)
      refine bcase_dec (fun a3 => ⟨_, _, _, n, l, t, k, rfl, .z, hfa, rfl, sim _ _ _ a3 rfl⟩) (fun a3 => ?_)
      refine bcase_dec (fun a4 => ⟨_, _, _, n, l, t, k, rfl, .z, hfa, rfl, sim _ _ _ a4 rfl⟩) (fun a4 => ?_)
      refine bcase_dec (fun a5 => ⟨_, _, _, n, l, t, k, rfl, .z, hfa, rfl, sim _ _ _ a5 rfl⟩) (fun a5 => ?_)
      refine bcase_dec (fun a6 => ⟨_, _, _, n, l, t, k, rfl, .id, hfa, rfl, sim _ _ _ a6 rfl⟩) (fun a6 => ?_)
      refine bcase_dec (fun a7 => ⟨_, _, _, n, l, t, k, rfl, .h, hfa, rfl, sim _ _ _ a7 rfl⟩) (fun a7 => ?_)
      refine bcase_dec (fun a8 => ⟨_, _, _, n, l, t, k, rfl, .both, hfa, rfl, sim _ _ _ a8 rfl⟩) (fun a8 => ?_)
      refine bcase_dec (fun a9 => ⟨_, _, _, n, l, t, k, rfl, .both, hfa, rfl, sim _ _ _ a9 rfl⟩) (fun a9 => ?_)
      have hp : plainsM n = none := by
        unfold plainsM
        rw [if_neg fun e => a1 e.symm, if_neg fun e => a2 e.symm, if_neg fun e => a3 e.symm, if_neg fun e => a4 e.symm, if_neg fun e => a5 e.symm, if_neg fun e => a6 e.symm, if_neg fun e => a7 e.symm, if_neg fun e => a8 e.symm, if_neg fun e => a9 e.symm]
      have e : readM (.mk n l t k) = (zS, 6) := by
        unfold readM; rw [El.n_mk, if_neg g1, if_neg g2, hp]
      rw [e] at hq; exact hq
end Go.Proofs.YtfdmmgiefhhnoaaGreatDoor
