import Derived.Test.YtfdecpfcphghlaaDoorTagsFeed2
set_option linter.unusedSimpArgs false
set_option linter.unusedVariables false
namespace Go.Proofs.YtfdecpfcphghlaaDoor
open Go Go.AM Go.RowKit
attribute [local irreducible] aCode bcase

-- New, Held, early
theorem r11 (q : AV → List Ob → Prop) :
  (aCode Tryd.K [] Tryd.b11 (kRetF Tryd.K Tryd.f11.results.toList q) ⟨[] ++ List.replicate (Tryd.f11.ntmps) .jk, []⟩) = (
  q (AV.rf 0 (0 : Nat)) [Ob.box [AV.nl, mkB false, mkI IntKind.i64 (0 : Int)]]) := by kernel_rfl

def E11 : List AV → (AV → List Ob → Prop) → Prop := fun al q => al = [] ∧ q (.rf 0 0) [.box [.vw 1 0, mkB false, mkI .i64 0], .row 1 []]
theorem c11 : ESound Tryd.prog 11 (newE E11) := by
  refine new_fnG (openNil 0 0 1) (openNil_ghost 0 0 1 (by omega)) (c := Tryd.b11) mixed Tryd.K_ok gsound_nil Tryd.func11 rfl rfl Tryd.call11 fun al q ⟨h, hq⟩ => ?_
  subst h
  exact cast (r11 _).symm hq

theorem r16n (q : AV → List Ob → Prop) :
  (aCode Tryd.K [] Tryd.b16 (kRetF Tryd.K Tryd.f16.results.toList q) ⟨[.d (.v (.pointer none))] ++ List.replicate (Tryd.f16.ntmps - 1) .jk, [.gh []]⟩) = (
  q (mkI IntKind.i64 (0 : Int)) [Ob.gh []]) := by kernel_rfl

theorem r16 (b : List (List D)) (w : Bool) (e : Int) (q : AV → List Ob → Prop) :
  (aCode Tryd.K [] Tryd.b16 (kRetF Tryd.K Tryd.f16.results.toList q) ⟨[.rf 0 0] ++ List.replicate (Tryd.f16.ntmps - 1) .jk, rdO b w e⟩) = (
  bcase (e != (0 : Int)) (
   q (mkI IntKind.i64 (0 : Int)) [Ob.box [AV.vw (1 : Nat) (List.length b), mkB w, mkI IntKind.i64 e], Ob.row (1 : Nat) b, Ob.gh [AV.rf (0 : Nat) (0 : Nat)]]) (
   q (mkI IntKind.i64 ((List.length b) : Int)) [Ob.box [AV.vw (1 : Nat) (List.length b), mkB w, mkI IntKind.i64 e], Ob.row (1 : Nat) b, Ob.gh [AV.rf (0 : Nat) (0 : Nat)]])) := by kernel_rfl

def heldI (b : ByteArray) (e : Int) : Int := if e = 0 then b.size else 0
def E16 : List AV → List Ob → (AV → List Ob → Prop) → Prop := fun al o q => match al with
  | [.d (.v (.pointer none))] => o = [.gh []] ∧ q (mkI .i64 0) [.gh []]
  | [.rf 0 0] => ∃ (b : ByteArray) (w : Bool) (e : Int), o = rdO (bytesD b) w e ∧ q (mkI .i64 (heldI b e)) (rdO (bytesD b) w e)
  | _ => False
theorem c16 : RSound Tryd.prog 16 E16 := by
  refine ref_fn (c := Tryd.b16) mixed Tryd.K_ok gsound_nil Tryd.func16 rfl rfl Tryd.call16 fun al o q hE => ?_
  unfold E16 at hE
  split at hE
  · obtain ⟨rfl, hq⟩ := hE
    exact cast (r16n q).symm hq
  · obtain ⟨b, w, e, rfl, hq⟩ := hE
    unfold heldI at hq
    by_cases h : e = 0
    · rw [if_pos h, ← bytesD_len] at hq
      exact cast (r16 (bytesD b) w e q).symm (bcaseF (by simpa using h) hq)
    · rw [if_neg h] at hq
      exact cast (r16 (bytesD b) w e q).symm (bcaseT (by simpa using h) hq)
  · exact hE.elim

theorem r10 (s : ByteArray) (q : AV → Prop) :
  (aCode Tryd.K [] Tryd.b10 (kRet Tryd.K Tryd.f10.results.toList q) ⟨[mkS s] ++ List.replicate (Tryd.f10.ntmps - 1) .jk, []⟩) = (
  ((ByteArray.size s) ≤ LIM) →
  (IntKind.i64 = IntKind.i64) ∧
  (((0 : Int) ≤ (if (3000 : Int) < ((ByteArray.size s) : Int) then (3000 : Int) else ((ByteArray.size s) : Int))) ∧ ((if (3000 : Int) < ((ByteArray.size s) : Int) then (3000 : Int) else ((ByteArray.size s) : Int)) ≤ ((ByteArray.size s) : Int))) ∧
  q (mkS (ByteArray.extract s (0 : Nat) (Int.toNat (if (3000 : Int) < ((ByteArray.size s) : Int) then (3000 : Int) else ((ByteArray.size s) : Int)))))) := by kernel_rfl

def earlyB (s : ByteArray) : ByteArray := s.extract 0 (min s.size 3000)
theorem earlyB_size (s : ByteArray) : (earlyB s).size ≤ 3000 := by
  unfold earlyB; rw [ByteArray.size_extract]; omega
def F10 : List AV → Option (Prop × AV) := fun al => match al with
  | [.d (.v (.string s))] => some (True, mkS (earlyB s))
  | _ => none
theorem c10 : PSound Tryd.prog 10 (detE F10) := by
  refine det_fn (c := Tryd.b10) mixed Tryd.K_ok gsound_nil Tryd.func10 rfl rfl Tryd.call10 fun al p r q hF hp hq => ?_
  unfold F10 at hF; split at hF <;> cases hF
  rename_i s
  have e : (if (3000 : Int) < (s.size : Int) then (3000 : Int) else (s.size : Int)).toNat = min s.size 3000 := by split <;> omega
  refine cast (r10 s q).symm fun _ => ⟨rfl, ⟨by split <;> omega, by split <;> omega⟩, ?_⟩
  simp only [e]; exact hq

-- as
/-- A token out of its cells. -/
def unAttr (c : List D) : ByteArray × ByteArray := (strD (c.getD 0 d0), strD (c.getD 1 d0))
def unTok (c : List D) : Tok := ⟨intD (c.getD 0 d0), strD (c.getD 1 d0), (slD (c.getD 2 d0)).map unAttr, strD (c.getD 3 d0)⟩
def unToks (es : List (List D)) : List Tok := es.map unTok
theorem unAttrs (l : List (ByteArray × ByteArray)) : (l.map attrD).map unAttr = l := by
  rw [List.map_map]
  have : (unAttr ∘ attrD) = id := by funext x; rfl
  rw [this, List.map_id]
theorem unTok_tokD (t : Tok) : unTok (tokD t) = t := by
  show (⟨t.kind, t.name, (t.attrs.map attrD).map unAttr, t.text⟩ : Tok) = t
  rw [unAttrs]
theorem unToks_toksD (l : List Tok) : unToks (toksD l) = l := by
  unfold unToks toksD
  rw [List.map_map]
  have : (unTok ∘ tokD) = id := by funext x; exact unTok_tokD x
  rw [this, List.map_id]
noncomputable def r15_k0 (q : AV → Prop) : Kont := kBlk (0 : Nat) (kSeq (aCode Tryd.K [] (cAt [1, 1, 1] Tryd.b15) (kRet Tryd.K (Array.toList (Func.results Tryd.f15)) q)) (kRet Tryd.K (Array.toList (Func.results Tryd.f15)) q))
theorem r15 (es : List (List D)) (q : AV → Prop) :
  (aCode Tryd.K [] Tryd.b15 (kRet Tryd.K Tryd.f15.results.toList q) ⟨[.d (.sl es)] ++ List.replicate (Tryd.f15.ntmps - 1) .jk, []⟩) = (
  ALoop (aCode Tryd.K [] (cAt [1, 1, 0, 1, 0, 0] Tryd.b15)) (YtfdecpfcphghlaaDoor.r15_k0 q) ⟨[AV.d (D.sl es), AV.jk, AV.nl, AV.nl, mkI IntKind.i64 (0 : Int), AV.jk, AV.jk, AV.jk, AV.jk, AV.jk, AV.jk, AV.jk, AV.jk, AV.jk, AV.jk, AV.jk, AV.jk, AV.jk, AV.jk, AV.jk, AV.jk, AV.jk, AV.jk, AV.jk, AV.jk, AV.jk, AV.jk, AV.jk, AV.jk, AV.jk, AV.jk, AV.jk, AV.jk, AV.jk, AV.jk, AV.jk], []⟩) := by kernel_rfl

def st15 (es ts : List (List D)) (i : Int) : S := ⟨[.d (.sl es), .jk, .jk, .vw 0 ts.length, mkI .i64 i] ++ jks 31, [.row 4 ts]⟩
def m15 : List Bool := maskOf (st15 [] [] 0)
theorem r15_b {ι : Type} (st : ι → S) (inv : ι → Prop) (μ : ι → Nat) (k : ι) (es ts : List (List D)) (i : Int) (q : AV → Prop) :
  (aCode Tryd.K [] (cAt [1, 1, 0, 1, 0, 0] Tryd.b15) (kFamM [] m15 st inv μ k (r15_k0 q)) (st15 es ts i)) = (
  ((List.length es) ≤ LIM) →
  bcase (decide (i < ((List.length es) : Int))) (
   (((0 : Int) ≤ i) ∧ (i < ((List.length es) : Int))) ∧
   ((List.length (List.getD es (Int.toNat i) [])) = 4) ∧
   ((1 : Nat) ≤ (List.length (List.drop (0 : Nat) (List.getD es (Int.toNat i) [])))) ∧
   ((List.getD (List.drop (0 : Nat) (List.getD es (Int.toNat i) [])) (0 : Nat) d0) = (D.v (Value.int IntKind.i64 (intD (List.getD (List.drop (0 : Nat) (List.getD es (Int.toNat i) [])) (0 : Nat) d0))))) ∧
   (((0 : Int) ≤ i) ∧ (i < ((List.length es) : Int))) ∧
   ((List.length (List.getD es (Int.toNat i) [])) = 4) ∧
   ((1 : Nat) ≤ (List.length (List.drop (1 : Nat) (List.getD es (Int.toNat i) [])))) ∧
   ((List.getD (List.drop (1 : Nat) (List.getD es (Int.toNat i) [])) (0 : Nat) d0) = (D.v (Value.string (strD (List.getD (List.drop (1 : Nat) (List.getD es (Int.toNat i) [])) (0 : Nat) d0))))) ∧
   (((0 : Int) ≤ i) ∧ (i < ((List.length es) : Int))) ∧
   ((List.length (List.getD es (Int.toNat i) [])) = 4) ∧
   ((1 : Nat) ≤ (List.length (List.drop (2 : Nat) (List.getD es (Int.toNat i) [])))) ∧
   ((List.getD (List.drop (2 : Nat) (List.getD es (Int.toNat i) [])) (0 : Nat) d0) = (D.sl (slD (List.getD (List.drop (2 : Nat) (List.getD es (Int.toNat i) [])) (0 : Nat) d0)))) ∧
   (((0 : Int) ≤ i) ∧ (i < ((List.length es) : Int))) ∧
   ((List.length (List.getD es (Int.toNat i) [])) = 4) ∧
   ((1 : Nat) ≤ (List.length (List.drop (3 : Nat) (List.getD es (Int.toNat i) [])))) ∧
   ((List.getD (List.drop (3 : Nat) (List.getD es (Int.toNat i) [])) (0 : Nat) d0) = (D.v (Value.string (strD (List.getD (List.drop (3 : Nat) (List.getD es (Int.toNat i) [])) (0 : Nat) d0))))) ∧
   (∀ (c : List D), (c ∈ [[D.v (Value.int IntKind.i64 (intD (List.getD (List.drop (0 : Nat) (List.getD es (Int.toNat i) [])) (0 : Nat) d0))), D.v (Value.string (strD (List.getD (List.drop (1 : Nat) (List.getD es (Int.toNat i) [])) (0 : Nat) d0))), D.sl (slD (List.getD (List.drop (2 : Nat) (List.getD es (Int.toNat i) [])) (0 : Nat) d0)), D.v (Value.string (strD (List.getD (List.drop (3 : Nat) (List.getD es (Int.toNat i) [])) (0 : Nat) d0)))]]) → (List.length c) = 4) ∧
   ((List.length ts) = (List.length ts)) ∧
   (((List.length ts) + 1) ≤ LIM) ∧
   FamNext st inv μ k ⟨[AV.d (D.sl es), AV.jk, AV.jk, AV.vw (0 : Nat) ((List.length ts) + 1), mkI IntKind.i64 (IntKind.wrap IntKind.i64 (i + (1 : Int))), AV.jk, AV.jk, AV.jk, AV.jk, AV.jk, AV.jk, AV.jk, AV.jk, AV.jk, AV.jk, AV.jk, AV.jk, AV.jk, AV.jk, AV.jk, AV.jk, AV.jk, AV.jk, AV.jk, AV.jk, AV.jk, AV.jk, AV.jk, AV.jk, AV.jk, AV.jk, AV.jk, AV.jk, AV.jk, AV.jk, AV.jk], [Ob.row (4 : Nat) (ts ++ [[D.v (Value.int IntKind.i64 (intD (List.getD (List.drop (0 : Nat) (List.getD es (Int.toNat i) [])) (0 : Nat) d0))), D.v (Value.string (strD (List.getD (List.drop (1 : Nat) (List.getD es (Int.toNat i) [])) (0 : Nat) d0))), D.sl (slD (List.getD (List.drop (2 : Nat) (List.getD es (Int.toNat i) [])) (0 : Nat) d0)), D.v (Value.string (strD (List.getD (List.drop (3 : Nat) (List.getD es (Int.toNat i) [])) (0 : Nat) d0)))]]), Ob.row 4 [[D.v (Value.int IntKind.i64 (intD (List.getD (List.drop (0 : Nat) (List.getD es (Int.toNat i) [])) (0 : Nat) d0))), D.v (Value.string (strD (List.getD (List.drop (1 : Nat) (List.getD es (Int.toNat i) [])) (0 : Nat) d0))), D.sl (slD (List.getD (List.drop (2 : Nat) (List.getD es (Int.toNat i) [])) (0 : Nat) d0)), D.v (Value.string (strD (List.getD (List.drop (3 : Nat) (List.getD es (Int.toNat i) [])) (0 : Nat) d0)))]]]⟩) (
   q (AV.d (D.sl (List.take (List.length ts) ts))))) := by kernel_rfl

def F15 : List AV → Option (Prop × AV) := fun al => match al with
  | [.d (.sl es)] => some (es = toksD (unToks es), .d (.sl es))
  | _ => none
theorem toksD_get (l : List Tok) (i : Nat) (h : i < l.length) : (toksD l).getD i [] = tokD (l[i]'h) := by
  simp [toksD, List.getD_eq_getElem?_getD, List.getElem?_eq_getElem h]
theorem c15 : PSound Tryd.prog 15 (detE F15) := by
  refine det_fn (c := Tryd.b15) mixed Tryd.K_ok gsound_nil Tryd.func15 rfl rfl Tryd.call15 fun al p r q hF hp hq => ?_
  unfold F15 at hF; split at hF <;> cases hF
  rename_i es
  generalize unToks es = l at hp
  subst hp
  have hll := toksD_len l
  refine cast (r15 (toksD l) q).symm (.openT 3 4 (by omega) ?_)
  refine ALoop.introM [] m15 (fun i : Nat => st15 (toksD l) (toksD (l.take i)) i) (fun i => i ≤ l.length) (fun i => l.length - i) ⟨[], 0, by simp [S.openT, S.le, sealAll, leL, jks, st15, toksD], Nat.zero_le _⟩ fun i hi => ?_
  have htl : (toksD (l.take i)).length = i := by rw [toksD_len, List.length_take]; omega
  have htk : List.take (toksD (l.take i)).length (toksD (l.take i)) = toksD (l.take i) := List.take_of_length_le (Nat.le_refl _)
  refine cast (r15_b _ _ _ _ (toksD l) (toksD (l.take i)) i q).symm fun hlim => ?_
  by_cases hlt : i < l.length
  · have hz : (i : Int) < ((toksD l).length : Int) := by omega
    have hg : (toksD l).getD ((i : Int)).toNat [] = tokD (l[i]'hlt) := by rw [show ((i : Int)).toNat = i from by simp, toksD_get l i hlt]
    have hw := wrap_succ hlt (show l.length ≤ LIM by omega)
    have hs : toksD (l.take (i + 1)) = toksD (l.take i) ++ [tokD (l[i]'hlt)] := by
      rw [List.take_add_one, List.getElem?_eq_getElem hlt]; unfold toksD; rw [List.map_append]; rfl
    have hb : (0 : Int) ≤ (i : Int) ∧ (i : Int) < ((toksD l).length : Int) := ⟨by omega, hz⟩
    have g4 : ((toksD l).getD ((i : Int)).toNat []).length = 4 := by rw [hg]; rfl
    refine bcaseT (decide_eq_true hz) ⟨hb, g4, by rw [hg]; exact Nat.le_add_left _ _, by rw [hg]; rfl, hb, g4, by rw [hg]; exact Nat.le_add_left _ _, by rw [hg]; rfl, hb, g4, by rw [hg]; exact Nat.le_add_left _ _, by rw [hg]; rfl, hb, g4, by rw [hg]; exact Nat.le_add_left _ _, by rw [hg]; rfl, by simp, rfl, by rw [htl]; exact Nat.le_trans hlt (by omega), ?_⟩
    refine .mk [] (i + 1) ?_ hlt (show l.length - (i + 1) < l.length - i by omega)
    simp only [hg]
    have h4 : [D.v (Value.int IntKind.i64 (intD (List.getD (List.drop 0 (tokD (l[i]'hlt))) 0 d0))), D.v (Value.string (strD (List.getD (List.drop 1 (tokD (l[i]'hlt))) 0 d0))), D.sl (slD (List.getD (List.drop 2 (tokD (l[i]'hlt))) 0 d0)), D.v (Value.string (strD (List.getD (List.drop 3 (tokD (l[i]'hlt))) 0 d0)))] = tokD (l[i]'hlt) := rfl
    simp only [h4]
    simp [S.le, sealAll, leL, leO, jks, st15, S.fits, fitsL, AV.fits, Ob.fits, hw, hs]
  · have hge : i = l.length := by omega
    have hz : ¬ (i : Int) < ((toksD l).length : Int) := by omega
    refine bcaseF (decide_eq_false hz) ?_
    rw [htk, hge, List.take_length]
    exact hq

-- Same
noncomputable def r14_k0 (q : AV → Prop) : Kont := kBlk (0 : Nat) (kSeq (aCode Tryd.K [] (cAt [1, 1, 1] Tryd.b14) (kRet Tryd.K (Array.toList (Func.results Tryd.f14)) q)) (kRet Tryd.K (Array.toList (Func.results Tryd.f14)) q))
theorem r14 (es fs : List (List D)) (q : AV → Prop) :
  (aCode Tryd.K [] Tryd.b14 (kRet Tryd.K Tryd.f14.results.toList q) ⟨[.d (.sl es), .d (.sl fs)] ++ List.replicate (Tryd.f14.ntmps - 2) .jk, []⟩) = (
  ((List.length es) ≤ LIM) →
  ((List.length fs) ≤ LIM) →
  bcase (((List.length es) : Int) != ((List.length fs) : Int)) (
   q (mkB false)) (
   ALoop (aCode Tryd.K [] (cAt [1, 1, 0, 1, 0, 0] Tryd.b14)) (YtfdecpfcphghlaaDoor.r14_k0 q) ⟨[AV.d (D.sl es), AV.d (D.sl fs), AV.jk, AV.jk, mkB false, mkI IntKind.i64 (0 : Int), AV.jk, AV.d (D.sl es), mkI IntKind.i64 ((List.length es) : Int), AV.d (D.sl fs), mkI IntKind.i64 ((List.length fs) : Int), mkB false, AV.jk, AV.jk, AV.jk, AV.jk, AV.jk, AV.jk, AV.jk, AV.jk, AV.jk, AV.jk, AV.jk, AV.jk, AV.jk, AV.jk, AV.jk, AV.jk, AV.jk, AV.jk, AV.jk, AV.jk, AV.jk, AV.jk, AV.jk, AV.jk, AV.jk, AV.jk, AV.jk, AV.jk, AV.jk, AV.jk, AV.jk, AV.jk, AV.jk, AV.jk, AV.jk, AV.jk, AV.jk, AV.jk, AV.jk, AV.jk, AV.jk, AV.jk, AV.jk, AV.jk, AV.jk, AV.jk, AV.jk, AV.jk, AV.jk, AV.jk, AV.jk, AV.jk, AV.jk, AV.jk, AV.jk, AV.jk, AV.jk, AV.jk, AV.jk, AV.jk, AV.jk, AV.jk, AV.jk, AV.jk, AV.jk, AV.jk, AV.jk, AV.jk, AV.jk, AV.jk, AV.jk, AV.jk, AV.jk, AV.jk, AV.jk, AV.jk, AV.jk, AV.jk, AV.jk, AV.jk, AV.jk, AV.jk, AV.jk, AV.jk, AV.jk], []⟩)) := by kernel_rfl

def st14 (es fs : List (List D)) (i : Int) : S := ⟨[.d (.sl es), .d (.sl fs), .jk, .jk, .jk, mkI .i64 i] ++ jks 91, []⟩
def m14 : List Bool := maskOf (st14 [] [] 0)
noncomputable def r14_b_k0 {ι : Type} (st : ι → S) (inv : ι → Prop) (μ : ι → Nat) (k : ι) (q : AV → Prop) : Kont := kBlk (2 : Nat) (kBlk (1 : Nat) (kSeq (aCode Tryd.K [] (cAt [1, 1, 0, 1, 0, 0, 1, 1] Tryd.b14) (kFamM [] YtfdecpfcphghlaaDoor.m14 st inv μ k (YtfdecpfcphghlaaDoor.r14_k0 q))) (kFamM [] YtfdecpfcphghlaaDoor.m14 st inv μ k (YtfdecpfcphghlaaDoor.r14_k0 q))))
theorem r14_b {ι : Type} (st : ι → S) (inv : ι → Prop) (μ : ι → Nat) (k : ι) (es fs : List (List D)) (i : Int) (q : AV → Prop) :
  (aCode Tryd.K [] (cAt [1, 1, 0, 1, 0, 0] Tryd.b14) (kFamM [] m14 st inv μ k (r14_k0 q)) (st14 es fs i)) = (
  ((List.length es) ≤ LIM) →
  bcase (decide (i < ((List.length es) : Int))) (
   (((0 : Int) ≤ i) ∧ (i < ((List.length es) : Int))) ∧
   ((List.length (List.getD es (Int.toNat i) [])) = 4) ∧
   ((1 : Nat) ≤ (List.length (List.drop (0 : Nat) (List.getD es (Int.toNat i) [])))) ∧
   ((List.getD (List.drop (0 : Nat) (List.getD es (Int.toNat i) [])) (0 : Nat) d0) = (D.v (Value.int IntKind.i64 (intD (List.getD (List.drop (0 : Nat) (List.getD es (Int.toNat i) [])) (0 : Nat) d0))))) ∧
   (((0 : Int) ≤ i) ∧ (i < ((List.length fs) : Int))) ∧
   ((List.length (List.getD fs (Int.toNat i) [])) = 4) ∧
   ((1 : Nat) ≤ (List.length (List.drop (0 : Nat) (List.getD fs (Int.toNat i) [])))) ∧
   ((List.getD (List.drop (0 : Nat) (List.getD fs (Int.toNat i) [])) (0 : Nat) d0) = (D.v (Value.int IntKind.i64 (intD (List.getD (List.drop (0 : Nat) (List.getD fs (Int.toNat i) [])) (0 : Nat) d0))))) ∧
   bcase ((intD (List.getD (List.drop (0 : Nat) (List.getD es (Int.toNat i) [])) (0 : Nat) d0)) != (intD (List.getD (List.drop (0 : Nat) (List.getD fs (Int.toNat i) [])) (0 : Nat) d0))) (
    q (mkB false)) (
    (((0 : Int) ≤ i) ∧ (i < ((List.length es) : Int))) ∧
    ((List.length (List.getD es (Int.toNat i) [])) = 4) ∧
    ((1 : Nat) ≤ (List.length (List.drop (1 : Nat) (List.getD es (Int.toNat i) [])))) ∧
    ((List.getD (List.drop (1 : Nat) (List.getD es (Int.toNat i) [])) (0 : Nat) d0) = (D.v (Value.string (strD (List.getD (List.drop (1 : Nat) (List.getD es (Int.toNat i) [])) (0 : Nat) d0))))) ∧
    (((0 : Int) ≤ i) ∧ (i < ((List.length fs) : Int))) ∧
    ((List.length (List.getD fs (Int.toNat i) [])) = 4) ∧
    ((1 : Nat) ≤ (List.length (List.drop (1 : Nat) (List.getD fs (Int.toNat i) [])))) ∧
    ((List.getD (List.drop (1 : Nat) (List.getD fs (Int.toNat i) [])) (0 : Nat) d0) = (D.v (Value.string (strD (List.getD (List.drop (1 : Nat) (List.getD fs (Int.toNat i) [])) (0 : Nat) d0))))) ∧
    bcase (!(decide ((strD (List.getD (List.drop (1 : Nat) (List.getD es (Int.toNat i) [])) (0 : Nat) d0)) = (strD (List.getD (List.drop (1 : Nat) (List.getD fs (Int.toNat i) [])) (0 : Nat) d0))))) (
     q (mkB false)) (
     (((0 : Int) ≤ i) ∧ (i < ((List.length es) : Int))) ∧
     ((List.length (List.getD es (Int.toNat i) [])) = 4) ∧
     ((1 : Nat) ≤ (List.length (List.drop (3 : Nat) (List.getD es (Int.toNat i) [])))) ∧
     ((List.getD (List.drop (3 : Nat) (List.getD es (Int.toNat i) [])) (0 : Nat) d0) = (D.v (Value.string (strD (List.getD (List.drop (3 : Nat) (List.getD es (Int.toNat i) [])) (0 : Nat) d0))))) ∧
     (((0 : Int) ≤ i) ∧ (i < ((List.length fs) : Int))) ∧
     ((List.length (List.getD fs (Int.toNat i) [])) = 4) ∧
     ((1 : Nat) ≤ (List.length (List.drop (3 : Nat) (List.getD fs (Int.toNat i) [])))) ∧
     ((List.getD (List.drop (3 : Nat) (List.getD fs (Int.toNat i) [])) (0 : Nat) d0) = (D.v (Value.string (strD (List.getD (List.drop (3 : Nat) (List.getD fs (Int.toNat i) [])) (0 : Nat) d0))))) ∧
     bcase (!(decide ((strD (List.getD (List.drop (3 : Nat) (List.getD es (Int.toNat i) [])) (0 : Nat) d0)) = (strD (List.getD (List.drop (3 : Nat) (List.getD fs (Int.toNat i) [])) (0 : Nat) d0))))) (
      q (mkB false)) (
      (((0 : Int) ≤ i) ∧ (i < ((List.length es) : Int))) ∧
      ((List.length (List.getD es (Int.toNat i) [])) = 4) ∧
      ((1 : Nat) ≤ (List.length (List.drop (2 : Nat) (List.getD es (Int.toNat i) [])))) ∧
      ((List.getD (List.drop (2 : Nat) (List.getD es (Int.toNat i) [])) (0 : Nat) d0) = (D.sl (slD (List.getD (List.drop (2 : Nat) (List.getD es (Int.toNat i) [])) (0 : Nat) d0)))) ∧ (
       ((List.length (slD (List.getD (List.drop (2 : Nat) (List.getD es (Int.toNat i) [])) (0 : Nat) d0))) ≤ LIM) →
       (((0 : Int) ≤ i) ∧ (i < ((List.length fs) : Int))) ∧
       ((List.length (List.getD fs (Int.toNat i) [])) = 4) ∧
       ((1 : Nat) ≤ (List.length (List.drop (2 : Nat) (List.getD fs (Int.toNat i) [])))) ∧
       ((List.getD (List.drop (2 : Nat) (List.getD fs (Int.toNat i) [])) (0 : Nat) d0) = (D.sl (slD (List.getD (List.drop (2 : Nat) (List.getD fs (Int.toNat i) [])) (0 : Nat) d0)))) ∧ (
        ((List.length (slD (List.getD (List.drop (2 : Nat) (List.getD fs (Int.toNat i) [])) (0 : Nat) d0))) ≤ LIM) →
        bcase (((List.length (slD (List.getD (List.drop (2 : Nat) (List.getD es (Int.toNat i) [])) (0 : Nat) d0))) : Int) != ((List.length (slD (List.getD (List.drop (2 : Nat) (List.getD fs (Int.toNat i) [])) (0 : Nat) d0))) : Int)) (
         q (mkB false)) (
         ALoop (aCode Tryd.K [] (cAt [1, 1, 0, 1, 0, 0, 1, 0, 0, 1, 1, 0, 0] Tryd.b14)) (YtfdecpfcphghlaaDoor.r14_b_k0 st inv μ k q) ⟨[AV.d (D.sl es), AV.d (D.sl fs), AV.jk, AV.jk, AV.jk, mkI IntKind.i64 i, mkI IntKind.i64 (0 : Int), AV.jk, AV.jk, AV.jk, AV.jk, AV.jk, mkI IntKind.i64 i, AV.d (D.sl es), mkI IntKind.i64 ((List.length es) : Int), mkB true, AV.jk, AV.jk, AV.d (D.sl es), mkI IntKind.i64 i, AV.ep (List.getD es (Int.toNat i) []), AV.ep (List.drop (0 : Nat) (List.getD es (Int.toNat i) [])), mkI IntKind.i64 (intD (List.getD (List.drop (0 : Nat) (List.getD es (Int.toNat i) [])) (0 : Nat) d0)), AV.d (D.sl fs), mkI IntKind.i64 i, AV.ep (List.getD fs (Int.toNat i) []), AV.ep (List.drop (0 : Nat) (List.getD fs (Int.toNat i) [])), mkI IntKind.i64 (intD (List.getD (List.drop (0 : Nat) (List.getD fs (Int.toNat i) [])) (0 : Nat) d0)), mkB ((intD (List.getD (List.drop (0 : Nat) (List.getD es (Int.toNat i) [])) (0 : Nat) d0)) != (intD (List.getD (List.drop (0 : Nat) (List.getD fs (Int.toNat i) [])) (0 : Nat) d0))), mkB false, AV.d (D.sl es), mkI IntKind.i64 i, AV.ep (List.getD es (Int.toNat i) []), AV.ep (List.drop (1 : Nat) (List.getD es (Int.toNat i) [])), mkS (strD (List.getD (List.drop (1 : Nat) (List.getD es (Int.toNat i) [])) (0 : Nat) d0)), AV.d (D.sl fs), mkI IntKind.i64 i, AV.ep (List.getD fs (Int.toNat i) []), AV.ep (List.drop (1 : Nat) (List.getD fs (Int.toNat i) [])), mkS (strD (List.getD (List.drop (1 : Nat) (List.getD fs (Int.toNat i) [])) (0 : Nat) d0)), mkB (!(decide ((strD (List.getD (List.drop (1 : Nat) (List.getD es (Int.toNat i) [])) (0 : Nat) d0)) = (strD (List.getD (List.drop (1 : Nat) (List.getD fs (Int.toNat i) [])) (0 : Nat) d0))))), mkB (!(decide ((strD (List.getD (List.drop (1 : Nat) (List.getD es (Int.toNat i) [])) (0 : Nat) d0)) = (strD (List.getD (List.drop (1 : Nat) (List.getD fs (Int.toNat i) [])) (0 : Nat) d0))))), mkB false, AV.d (D.sl es), mkI IntKind.i64 i, AV.ep (List.getD es (Int.toNat i) []), AV.ep (List.drop (3 : Nat) (List.getD es (Int.toNat i) [])), mkS (strD (List.getD (List.drop (3 : Nat) (List.getD es (Int.toNat i) [])) (0 : Nat) d0)), AV.d (D.sl fs), mkI IntKind.i64 i, AV.ep (List.getD fs (Int.toNat i) []), AV.ep (List.drop (3 : Nat) (List.getD fs (Int.toNat i) [])), mkS (strD (List.getD (List.drop (3 : Nat) (List.getD fs (Int.toNat i) [])) (0 : Nat) d0)), mkB (!(decide ((strD (List.getD (List.drop (3 : Nat) (List.getD es (Int.toNat i) [])) (0 : Nat) d0)) = (strD (List.getD (List.drop (3 : Nat) (List.getD fs (Int.toNat i) [])) (0 : Nat) d0))))), mkB (!(decide ((strD (List.getD (List.drop (3 : Nat) (List.getD es (Int.toNat i) [])) (0 : Nat) d0)) = (strD (List.getD (List.drop (3 : Nat) (List.getD fs (Int.toNat i) [])) (0 : Nat) d0))))), mkB false, AV.d (D.sl es), mkI IntKind.i64 i, AV.ep (List.getD es (Int.toNat i) []), AV.ep (List.drop (2 : Nat) (List.getD es (Int.toNat i) [])), AV.d (D.sl (slD (List.getD (List.drop (2 : Nat) (List.getD es (Int.toNat i) [])) (0 : Nat) d0))), mkI IntKind.i64 ((List.length (slD (List.getD (List.drop (2 : Nat) (List.getD es (Int.toNat i) [])) (0 : Nat) d0))) : Int), AV.d (D.sl fs), mkI IntKind.i64 i, AV.ep (List.getD fs (Int.toNat i) []), AV.ep (List.drop (2 : Nat) (List.getD fs (Int.toNat i) [])), AV.d (D.sl (slD (List.getD (List.drop (2 : Nat) (List.getD fs (Int.toNat i) [])) (0 : Nat) d0))), mkI IntKind.i64 ((List.length (slD (List.getD (List.drop (2 : Nat) (List.getD fs (Int.toNat i) [])) (0 : Nat) d0))) : Int), mkB (((List.length (slD (List.getD (List.drop (2 : Nat) (List.getD es (Int.toNat i) [])) (0 : Nat) d0))) : Int) != ((List.length (slD (List.getD (List.drop (2 : Nat) (List.getD fs (Int.toNat i) [])) (0 : Nat) d0))) : Int)), mkB false, AV.jk, AV.jk, AV.jk, AV.jk, AV.jk, AV.jk, AV.jk, AV.jk, AV.jk, AV.jk, AV.jk, AV.jk, AV.jk, AV.jk, AV.jk, AV.jk, AV.jk, AV.jk, AV.jk, AV.jk, AV.jk, AV.jk, AV.jk, AV.jk, AV.jk, AV.jk, AV.jk], []⟩))))))) (
   q (mkB true))) := by kernel_rfl

def st14c (es fs : List (List D)) (i k : Int) : S := ⟨[.d (.sl es), .d (.sl fs), .jk, .jk, .jk, mkI .i64 i, mkI .i64 k] ++ jks 90, []⟩
def m14c : List Bool := maskOf (st14c [] [] 0 0)
theorem r14_c {ι : Type} (st : ι → S) (inv : ι → Prop) (μ : ι → Nat) (k : ι) {ι2 : Type} (st2 : ι2 → S) (inv2 : ι2 → Prop) (μ2 : ι2 → Nat) (k2 : ι2) (es fs : List (List D)) (i j : Int) (q : AV → Prop) :
  (aCode Tryd.K [] (cAt [1, 1, 0, 1, 0, 0, 1, 0, 0, 1, 1, 0, 0] Tryd.b14) (kFamM [] m14c st2 inv2 μ2 k2 (r14_b_k0 st inv μ k q)) (st14c es fs i j)) = (
  (((0 : Int) ≤ i) ∧ (i < ((List.length es) : Int))) ∧
  ((List.length (List.getD es (Int.toNat i) [])) = 4) ∧
  ((1 : Nat) ≤ (List.length (List.drop (2 : Nat) (List.getD es (Int.toNat i) [])))) ∧
  ((List.getD (List.drop (2 : Nat) (List.getD es (Int.toNat i) [])) (0 : Nat) d0) = (D.sl (slD (List.getD (List.drop (2 : Nat) (List.getD es (Int.toNat i) [])) (0 : Nat) d0)))) ∧ (
   ((List.length (slD (List.getD (List.drop (2 : Nat) (List.getD es (Int.toNat i) [])) (0 : Nat) d0))) ≤ LIM) →
   bcase (decide (j < ((List.length (slD (List.getD (List.drop (2 : Nat) (List.getD es (Int.toNat i) [])) (0 : Nat) d0))) : Int))) (
    (((0 : Int) ≤ i) ∧ (i < ((List.length es) : Int))) ∧
    ((List.length (List.getD es (Int.toNat i) [])) = 4) ∧
    ((1 : Nat) ≤ (List.length (List.drop (2 : Nat) (List.getD es (Int.toNat i) [])))) ∧
    ((List.getD (List.drop (2 : Nat) (List.getD es (Int.toNat i) [])) (0 : Nat) d0) = (D.sl (slD (List.getD (List.drop (2 : Nat) (List.getD es (Int.toNat i) [])) (0 : Nat) d0)))) ∧
    (((0 : Int) ≤ j) ∧ (j < ((List.length (slD (List.getD (List.drop (2 : Nat) (List.getD es (Int.toNat i) [])) (0 : Nat) d0))) : Int))) ∧
    ((List.length (List.getD (slD (List.getD (List.drop (2 : Nat) (List.getD es (Int.toNat i) [])) (0 : Nat) d0)) (Int.toNat j) [])) = 2) ∧
    (2 ≤ (List.length (List.getD (slD (List.getD (List.drop (2 : Nat) (List.getD es (Int.toNat i) [])) (0 : Nat) d0)) (Int.toNat j) []))) ∧
    (((List.getD (List.getD (slD (List.getD (List.drop (2 : Nat) (List.getD es (Int.toNat i) [])) (0 : Nat) d0)) (Int.toNat j) []) (0 : Nat) d0) = (D.v (Value.string (strD (List.getD (List.getD (slD (List.getD (List.drop (2 : Nat) (List.getD es (Int.toNat i) [])) (0 : Nat) d0)) (Int.toNat j) []) (0 : Nat) d0))))) ∧ (((List.getD (List.drop (1 : Nat) (List.getD (slD (List.getD (List.drop (2 : Nat) (List.getD es (Int.toNat i) [])) (0 : Nat) d0)) (Int.toNat j) [])) (0 : Nat) d0) = (D.v (Value.string (strD (List.getD (List.drop (1 : Nat) (List.getD (slD (List.getD (List.drop (2 : Nat) (List.getD es (Int.toNat i) [])) (0 : Nat) d0)) (Int.toNat j) [])) (0 : Nat) d0))))) ∧ True)) ∧
    (((0 : Int) ≤ i) ∧ (i < ((List.length fs) : Int))) ∧
    ((List.length (List.getD fs (Int.toNat i) [])) = 4) ∧
    ((1 : Nat) ≤ (List.length (List.drop (2 : Nat) (List.getD fs (Int.toNat i) [])))) ∧
    ((List.getD (List.drop (2 : Nat) (List.getD fs (Int.toNat i) [])) (0 : Nat) d0) = (D.sl (slD (List.getD (List.drop (2 : Nat) (List.getD fs (Int.toNat i) [])) (0 : Nat) d0)))) ∧
    (((0 : Int) ≤ j) ∧ (j < ((List.length (slD (List.getD (List.drop (2 : Nat) (List.getD fs (Int.toNat i) [])) (0 : Nat) d0))) : Int))) ∧
    ((List.length (List.getD (slD (List.getD (List.drop (2 : Nat) (List.getD fs (Int.toNat i) [])) (0 : Nat) d0)) (Int.toNat j) [])) = 2) ∧
    (2 ≤ (List.length (List.getD (slD (List.getD (List.drop (2 : Nat) (List.getD fs (Int.toNat i) [])) (0 : Nat) d0)) (Int.toNat j) []))) ∧
    (((List.getD (List.getD (slD (List.getD (List.drop (2 : Nat) (List.getD fs (Int.toNat i) [])) (0 : Nat) d0)) (Int.toNat j) []) (0 : Nat) d0) = (D.v (Value.string (strD (List.getD (List.getD (slD (List.getD (List.drop (2 : Nat) (List.getD fs (Int.toNat i) [])) (0 : Nat) d0)) (Int.toNat j) []) (0 : Nat) d0))))) ∧ (((List.getD (List.drop (1 : Nat) (List.getD (slD (List.getD (List.drop (2 : Nat) (List.getD fs (Int.toNat i) [])) (0 : Nat) d0)) (Int.toNat j) [])) (0 : Nat) d0) = (D.v (Value.string (strD (List.getD (List.drop (1 : Nat) (List.getD (slD (List.getD (List.drop (2 : Nat) (List.getD fs (Int.toNat i) [])) (0 : Nat) d0)) (Int.toNat j) [])) (0 : Nat) d0))))) ∧ True)) ∧
    bcase (!(Bool.and (decide ((strD (List.getD (List.getD (slD (List.getD (List.drop (2 : Nat) (List.getD es (Int.toNat i) [])) (0 : Nat) d0)) (Int.toNat j) []) (0 : Nat) d0)) = (strD (List.getD (List.getD (slD (List.getD (List.drop (2 : Nat) (List.getD fs (Int.toNat i) [])) (0 : Nat) d0)) (Int.toNat j) []) (0 : Nat) d0)))) (Bool.and (decide ((strD (List.getD (List.drop (1 : Nat) (List.getD (slD (List.getD (List.drop (2 : Nat) (List.getD es (Int.toNat i) [])) (0 : Nat) d0)) (Int.toNat j) [])) (0 : Nat) d0)) = (strD (List.getD (List.drop (1 : Nat) (List.getD (slD (List.getD (List.drop (2 : Nat) (List.getD fs (Int.toNat i) [])) (0 : Nat) d0)) (Int.toNat j) [])) (0 : Nat) d0)))) true))) (
     q (mkB false)) (
     FamNext st2 inv2 μ2 k2 ⟨[AV.d (D.sl es), AV.d (D.sl fs), AV.jk, AV.jk, AV.jk, mkI IntKind.i64 i, mkI IntKind.i64 (IntKind.wrap IntKind.i64 (j + (1 : Int))), AV.jk, AV.jk, AV.jk, AV.jk, AV.jk, AV.jk, AV.jk, AV.jk, AV.jk, AV.jk, AV.jk, AV.jk, AV.jk, AV.jk, AV.jk, AV.jk, AV.jk, AV.jk, AV.jk, AV.jk, AV.jk, AV.jk, AV.jk, AV.jk, AV.jk, AV.jk, AV.jk, AV.jk, AV.jk, AV.jk, AV.jk, AV.jk, AV.jk, AV.jk, AV.jk, AV.jk, AV.jk, AV.jk, AV.jk, AV.jk, AV.jk, AV.jk, AV.jk, AV.jk, AV.jk, AV.jk, AV.jk, AV.jk, AV.jk, AV.jk, AV.jk, AV.jk, AV.jk, AV.jk, AV.jk, AV.jk, AV.jk, AV.jk, AV.jk, AV.jk, AV.jk, AV.jk, AV.jk, AV.jk, AV.jk, AV.jk, AV.jk, AV.jk, AV.jk, AV.jk, AV.jk, AV.jk, AV.jk, AV.jk, AV.jk, AV.jk, AV.jk, AV.jk, AV.jk, AV.jk, AV.jk, AV.jk, AV.jk, AV.jk, AV.jk, AV.jk, AV.jk, AV.jk, AV.jk, AV.jk], []⟩)) (
    FamNext st inv μ k ⟨[AV.d (D.sl es), AV.d (D.sl fs), AV.jk, AV.jk, AV.jk, mkI IntKind.i64 (IntKind.wrap IntKind.i64 (i + (1 : Int))), AV.jk, AV.jk, AV.jk, AV.jk, AV.jk, AV.jk, AV.jk, AV.jk, AV.jk, AV.jk, AV.jk, AV.jk, AV.jk, AV.jk, AV.jk, AV.jk, AV.jk, AV.jk, AV.jk, AV.jk, AV.jk, AV.jk, AV.jk, AV.jk, AV.jk, AV.jk, AV.jk, AV.jk, AV.jk, AV.jk, AV.jk, AV.jk, AV.jk, AV.jk, AV.jk, AV.jk, AV.jk, AV.jk, AV.jk, AV.jk, AV.jk, AV.jk, AV.jk, AV.jk, AV.jk, AV.jk, AV.jk, AV.jk, AV.jk, AV.jk, AV.jk, AV.jk, AV.jk, AV.jk, AV.jk, AV.jk, AV.jk, AV.jk, AV.jk, AV.jk, AV.jk, AV.jk, AV.jk, AV.jk, AV.jk, AV.jk, AV.jk, AV.jk, AV.jk, AV.jk, AV.jk, AV.jk, AV.jk, AV.jk, AV.jk, AV.jk, AV.jk, AV.jk, AV.jk, AV.jk, AV.jk, AV.jk, AV.jk, AV.jk, AV.jk, AV.jk, AV.jk, AV.jk, AV.jk, AV.jk, AV.jk], []⟩))) := by kernel_rfl

def F14 : List AV → Option (Prop × AV) := fun al => match al with
  | [.d (.sl es), .d (.sl fs)] => some (es = toksD (unToks es) ∧ fs = toksD (unToks fs), mkB (decide (unToks es = unToks fs)))
  | _ => none
theorem list_eq {α : Type} {a b : List α} (hl : a.length = b.length) (h : ∀ (j : Nat) (h : j < a.length) (h' : j < b.length), a[j] = b[j]) : a = b := List.ext_getElem hl h
theorem c14 : PSound Tryd.prog 14 (detE F14) := by
  refine det_fn (c := Tryd.b14) mixed Tryd.K_ok gsound_nil Tryd.func14 rfl rfl Tryd.call14 fun al p r q hF hp hq => ?_
  unfold F14 at hF; split at hF <;> cases hF
  rename_i es fs
  obtain ⟨h1, h2⟩ := hp
  generalize unToks es = a at h1 hq
  generalize unToks fs = b at h2 hq
  subst h1 h2
  have la := toksD_len a
  have lb := toksD_len b
  have bad : a ≠ b → q (mkB false) := fun h => by rw [decide_eq_false h] at hq; exact hq
  have good : a = b → q (mkB true) := fun h => by rw [decide_eq_true h] at hq; exact hq
  clear hq
  by_cases hl : a.length = b.length
  · refine cast (r14 (toksD a) (toksD b) q).symm fun _ _ => bcaseF (by rw [la, lb, hl]; simp) ?_
    refine ALoop.introM [] m14 (fun i : Nat => st14 (toksD a) (toksD b) i) (fun i => i ≤ a.length ∧ ∀ (j : Nat) (h : j < a.length) (h' : j < b.length), j < i → a[j] = b[j]) (fun i => a.length - i) ⟨[], 0, by simp [S.le, sealAll, leL, jks, st14], Nat.zero_le _, fun _ _ _ h => absurd h (Nat.not_lt_zero _)⟩ fun i ⟨hi, hI⟩ => ?_
    by_cases hlt : i < a.length
    · have hltb : i < b.length := by omega
      have hz : (i : Int) < ((toksD a).length : Int) := by omega
      have hza : (0 : Int) ≤ (i : Int) ∧ (i : Int) < ((toksD a).length : Int) := ⟨by omega, hz⟩
      have hzb : (0 : Int) ≤ (i : Int) ∧ (i : Int) < ((toksD b).length : Int) := ⟨by omega, by omega⟩
      have ga : (toksD a).getD ((i : Int)).toNat [] = tokD (a[i]'hlt) := by rw [show ((i : Int)).toNat = i from by simp, toksD_get a i hlt]
      have gb : (toksD b).getD ((i : Int)).toNat [] = tokD (b[i]'hltb) := by rw [show ((i : Int)).toNat = i from by simp, toksD_get b i hltb]
      have a4 : ((toksD a).getD ((i : Int)).toNat []).length = 4 := by rw [ga]; rfl
      have b4 : ((toksD b).getD ((i : Int)).toNat []).length = 4 := by rw [gb]; rfl
      have ka : intD (List.getD (List.drop 0 ((toksD a).getD ((i : Int)).toNat [])) 0 d0) = (a[i]'hlt).kind := by rw [ga]; rfl
      have kb : intD (List.getD (List.drop 0 ((toksD b).getD ((i : Int)).toNat [])) 0 d0) = (b[i]'hltb).kind := by rw [gb]; rfl
      have na : strD (List.getD (List.drop 1 ((toksD a).getD ((i : Int)).toNat [])) 0 d0) = (a[i]'hlt).name := by rw [ga]; rfl
      have nb : strD (List.getD (List.drop 1 ((toksD b).getD ((i : Int)).toNat [])) 0 d0) = (b[i]'hltb).name := by rw [gb]; rfl
      have ta : strD (List.getD (List.drop 3 ((toksD a).getD ((i : Int)).toNat [])) 0 d0) = (a[i]'hlt).text := by rw [ga]; rfl
      have tb : strD (List.getD (List.drop 3 ((toksD b).getD ((i : Int)).toNat [])) 0 d0) = (b[i]'hltb).text := by rw [gb]; rfl
      have sa : slD (List.getD (List.drop 2 ((toksD a).getD ((i : Int)).toNat [])) 0 d0) = (a[i]'hlt).attrs.map attrD := by rw [ga]; rfl
      have sb : slD (List.getD (List.drop 2 ((toksD b).getD ((i : Int)).toNat [])) 0 d0) = (b[i]'hltb).attrs.map attrD := by rw [gb]; rfl
      have ea : List.getD (List.drop 2 ((toksD a).getD ((i : Int)).toNat [])) 0 d0 = D.sl (slD (List.getD (List.drop 2 ((toksD a).getD ((i : Int)).toNat [])) 0 d0)) := by rw [ga]; rfl
      have eb : List.getD (List.drop 2 ((toksD b).getD ((i : Int)).toNat [])) 0 d0 = D.sl (slD (List.getD (List.drop 2 ((toksD b).getD ((i : Int)).toNat [])) 0 d0)) := by rw [gb]; rfl
      have a2 : 1 ≤ (List.drop 2 ((toksD a).getD ((i : Int)).toNat [])).length := by rw [ga]; exact Nat.le_add_left _ _
      have b2 : 1 ≤ (List.drop 2 ((toksD b).getD ((i : Int)).toNat [])).length := by rw [gb]; exact Nat.le_add_left _ _
      have sla : (((slD (List.getD (List.drop 2 ((toksD a).getD ((i : Int)).toNat [])) 0 d0)).length : Nat) : Int) = (a[i]'hlt).attrs.length := by rw [sa, List.length_map]
      have slb : (((slD (List.getD (List.drop 2 ((toksD b).getD ((i : Int)).toNat [])) 0 d0)).length : Nat) : Int) = (b[i]'hltb).attrs.length := by rw [sb, List.length_map]
      have ne : ∀ h : ¬ a[i] = b[i], q (mkB false) := fun h => bad fun e => h (by simp only [e])
      refine cast (r14_b _ _ _ _ (toksD a) (toksD b) i q).symm fun hlim => bcaseT (decide_eq_true hz) ⟨hza, a4, by rw [ga]; exact Nat.le_add_left _ _, by rw [ga]; rfl, hzb, b4, by rw [gb]; exact Nat.le_add_left _ _, by rw [gb]; rfl, bcase_mk (fun h => ne ?_) (fun hk => ⟨hza, a4, by rw [ga]; exact Nat.le_add_left _ _, by rw [ga]; rfl, hzb, b4, by rw [gb]; exact Nat.le_add_left _ _, by rw [gb]; rfl, bcase_mk (fun h => ne ?_) (fun hn => ⟨hza, a4, by rw [ga]; exact Nat.le_add_left _ _, by rw [ga]; rfl, hzb, b4, by rw [gb]; exact Nat.le_add_left _ _, by rw [gb]; rfl, bcase_mk (fun h => ne ?_) (fun ht => ⟨hza, a4, a2, ea, fun hla => ⟨hzb, b4, b2, eb, fun hlb => bcase_mk (fun h => ne ?_) (fun hs => ?_)⟩⟩)⟩)⟩)⟩
      · rw [ka, kb] at h
        intro e; rw [e] at h; simp at h
      · rw [na, nb] at h
        intro e; rw [e] at h; simp at h
      · rw [ta, tb] at h
        intro e; rw [e] at h; simp at h
      · rw [sla, slb] at h
        intro e; rw [e] at h; simp at h
      · rw [ka, kb] at hk
        rw [na, nb] at hn
        rw [ta, tb] at ht
        rw [sla, slb] at hs
        rw [sa, List.length_map] at hla
        have hs' : (a[i]'hlt).attrs.length = (b[i]'hltb).attrs.length := by have : ((a[i]'hlt).attrs.length : Int) = ((b[i]'hltb).attrs.length : Int) := (by simpa using hs); omega
        obtain ⟨A, hA⟩ : ∃ A, (a[i]'hlt).attrs = A := ⟨_, rfl⟩
        obtain ⟨B, hB⟩ : ∃ B, (b[i]'hltb).attrs = B := ⟨_, rfl⟩
        rw [hA] at hs' sa sla hla
        rw [hB] at hs' sb slb
        have eqi : A = B → a[i] = b[i] := fun e => by
          have h1 : (a[i]'hlt).kind = (b[i]'hltb).kind := by simpa using hk
          have h2 : (a[i]'hlt).name = (b[i]'hltb).name := by simpa using hn
          have h3 : (a[i]'hlt).text = (b[i]'hltb).text := by simpa using ht
          have h4 : (a[i]'hlt).attrs = (b[i]'hltb).attrs := by rw [hA, hB, e]
          generalize a[i] = x at h1 h2 h3 h4
          generalize b[i] = y at h1 h2 h3 h4
          cases x; cases y
          simp only at h1 h2 h3 h4
          subst h1 h2 h3 h4; rfl
        have nei : A ≠ B → q (mkB false) := fun h => ne fun e => h (by rw [← hA, ← hB, e])
        refine ALoop.introM [] m14c (fun k : Nat => st14c (toksD a) (toksD b) i k) (fun k => k ≤ A.length ∧ ∀ (j : Nat) (h : j < A.length) (h' : j < B.length), j < k → A[j] = B[j]) (fun k => A.length - k) ⟨[], 0, by simp [S.le, sealAll, leL, jks, st14c], Nat.zero_le _, fun _ _ _ h => absurd h (Nat.not_lt_zero _)⟩ fun k ⟨hk2, hK⟩ => ?_
        by_cases hkt : k < A.length
        · have hktb : k < B.length := by omega
          have ca : (slD (List.getD (List.drop 2 ((toksD a).getD ((i : Int)).toNat [])) 0 d0)).getD ((k : Int)).toNat [] = attrD (A[k]'hkt) := by rw [sa, show ((k : Int)).toNat = k from by simp, attrD_get A k hkt]
          have cb : (slD (List.getD (List.drop 2 ((toksD b).getD ((i : Int)).toNat [])) 0 d0)).getD ((k : Int)).toNat [] = attrD (B[k]'hktb) := by rw [sb, show ((k : Int)).toNat = k from by simp, attrD_get B k hktb]
          have hw := wrap_succ hkt (show A.length ≤ LIM by omega)
          refine cast (r14_c _ _ _ _ _ _ _ _ (toksD a) (toksD b) i k q).symm ⟨hza, a4, a2, ea, fun _ => bcaseT (decide_eq_true (by rw [sla]; omega)) ⟨hza, a4, a2, ea, ⟨by omega, by rw [sla]; omega⟩, by rw [ca]; rfl, by rw [ca]; exact Nat.le_refl _, ⟨by rw [ca]; rfl, by rw [ca]; rfl, trivial⟩, hzb, b4, b2, eb, ⟨by omega, by rw [slb]; omega⟩, by rw [cb]; rfl, by rw [cb]; exact Nat.le_refl _, ⟨by rw [cb]; rfl, by rw [cb]; rfl, trivial⟩, ?_⟩⟩
          have v1 : strD (List.getD ((slD (List.getD (List.drop 2 ((toksD a).getD ((i : Int)).toNat [])) 0 d0)).getD ((k : Int)).toNat []) 0 d0) = (A[k]'hkt).1 := by rw [ca]; rfl
          have v2 : strD (List.getD (List.drop 1 ((slD (List.getD (List.drop 2 ((toksD a).getD ((i : Int)).toNat [])) 0 d0)).getD ((k : Int)).toNat [])) 0 d0) = (A[k]'hkt).2 := by rw [ca]; rfl
          have v3 : strD (List.getD ((slD (List.getD (List.drop 2 ((toksD b).getD ((i : Int)).toNat [])) 0 d0)).getD ((k : Int)).toNat []) 0 d0) = (B[k]'hktb).1 := by rw [cb]; rfl
          have v4 : strD (List.getD (List.drop 1 ((slD (List.getD (List.drop 2 ((toksD b).getD ((i : Int)).toNat [])) 0 d0)).getD ((k : Int)).toNat [])) 0 d0) = (B[k]'hktb).2 := by rw [cb]; rfl
          refine bcase_mk (fun h => nei fun e => ?_) (fun h => ?_)
          · subst e
            rw [v1, v2, v3, v4] at h
            simp at h
          · rw [v1, v2, v3, v4] at h
            have h5 : A[k] = B[k] := by
              simp only [Bool.not_eq_false', Bool.and_eq_true, decide_eq_true_eq, and_true] at h
              exact Prod.ext h.1 h.2
            refine .mk [] (k + 1) ?_ ⟨hkt, fun j h h' hj => ?_⟩ (show A.length - (k + 1) < A.length - k by omega)
            · simp [S.le, sealAll, leL, jks, st14c, hw]
            · by_cases e : j = k
              · subst e; exact h5
              · exact hK j h h' (by omega)
        · refine cast (r14_c _ _ _ _ _ _ _ _ (toksD a) (toksD b) i k q).symm ⟨hza, a4, a2, ea, fun _ => bcaseF (decide_eq_false (by rw [sla]; omega)) ?_⟩
          have hw := wrap_succ hlt (show a.length ≤ LIM by omega)
          have hAB : A = B := list_eq hs' fun j h h' => hK j h h' (by omega)
          refine .mk [] (i + 1) ?_ ⟨hlt, fun j h h' hj => ?_⟩ (show a.length - (i + 1) < a.length - i by omega)
          · simp [S.le, sealAll, leL, jks, st14, hw]
          · by_cases e : j = i
            · subst e; exact eqi hAB
            · exact hI j h h' (by omega)
    · have hz : ¬ (i : Int) < ((toksD a).length : Int) := by omega
      exact cast (r14_b _ _ _ _ (toksD a) (toksD b) i q).symm fun _ => bcaseF (decide_eq_false hz) (good (list_eq hl fun j h h' => hI j h h' (by omega)))
  · refine cast (r14 (toksD a) (toksD b) q).symm fun _ _ => bcaseT (by rw [la, lb]; simp; omega) (bad fun e => hl (by rw [e]))

end Go.Proofs.YtfdecpfcphghlaaDoor
