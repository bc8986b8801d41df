import Derived.Test.YtfdmmgiefhhnoaaGreatDoorStaFmt
set_option linter.unusedSimpArgs false
set_option linter.unusedVariables false
namespace Go.Proofs.YtfdmmgiefhhnoaaGreatDoor
open Go Go.AM Go.RowKit
attribute [local irreducible] aCode
def FSR : List AV → Option (Prop × AV) := fun al => match al with
  | [.d (.v (.string s))] => some (s.size ≤ LIM, mkI .i64 (if rightB s = true then 0 else 2))
  | _ => none
theorem rWord (s : BA) (q : AV → Prop) :
 (aCode KS [(62, .det FSR)] Tryz.b40 (kRet KS Tryz.f40.results.toList q) ⟨[mkS s] ++ List.replicate (Tryz.f40.ntmps - 1) .jk, []⟩) = (
 bcase (!(decide (s = ⟨#[]⟩))) (
 ((ByteArray.size s) ≤ LIM) →
 bcase (decide (((ByteArray.size s) : Int) ≤ (40 : Int))) (
 ((ByteArray.size s) ≤ LIM) ∧
 q (mkB ((if (rightB s) = true then (0 : Int) else (2 : Int)) == (0 : Int)))) (
 q (mkB false))) (
 q (mkB false))) := by kernel_rfl
theorem rAddrd (s : BA) (q : AV → Prop) :
 (aCode KS [(60, .det F25)] Tryz.b37 (kRet KS Tryz.f37.results.toList q) ⟨[mkS s] ++ List.replicate (Tryz.f37.ntmps - 1) .jk, []⟩) = (
 ((ByteArray.size s) ≤ LIM) ∧
 bcase (decide (s = ⟨#[]⟩)) (
 q (mkB true)) (
 q (mkB (addrB s)))) := by kernel_rfl
theorem rPlace (s : BA) (q : AV → Prop) :
 (aCode KS [(37, .det (strF addrE))] Tryz.b36 (kRet KS Tryz.f36.results.toList q) ⟨[mkS s] ++ List.replicate (Tryz.f36.ntmps - 1) .jk, []⟩) = (
 bcase (!(decide (s = ⟨#[]⟩))) (
 ((ByteArray.size s) ≤ LIM) ∧
 q (mkB (addrE s))) (
 q (mkB false))) := by kernel_rfl
theorem rOne (l : List BA) (q : AV → List Ob → Prop) :
 (aCode KS [] Tryz.b35 (kRetF KS Tryz.f35.results.toList q) ⟨[mkSS l] ++ List.replicate (Tryz.f35.ntmps - 1) .jk, []⟩) = (
 q (AV.fn (Fn.func 58) [] [AV.rf 0 0]) [Ob.box [AV.d (.sl (strsD l))]]) := by kernel_rfl
theorem rOne1 (l : List BA) (x : BA) (q : AV → List Ob → Prop) :
 (aCode KS [(59, .det F20)] Tryz.b58 (kRetF KS Tryz.f58.results.toList q) ⟨[mkS x, .rf 0 0] ++ List.replicate (Tryz.f58.ntmps - 2) .jk, [.box [mkSS l], .gh [.rf 0 0]]⟩) = (
 ((strsD l) = (strsD (unSS (strsD l)))) ∧
 q (mkB (memB x (unSS (strsD l)))) [Ob.box [mkSS l], Ob.gh [AV.rf 0 0]]) := by kernel_rfl
def FRead : List AV → Option (Prop × AV) := fun al => match al with
  | [.d (.v (.string s))] => some (s.size ≤ LIM, .tp [mkI .u32 (numOf s), mkB (cntB s)])
  | _ => none
theorem rNum (s : BA) (q : AV → Prop) :
 (aCode KS [(65, .det FRead)] Tryz.b63 (kRet KS Tryz.f63.results.toList q) ⟨[mkS s] ++ List.replicate (Tryz.f63.ntmps - 1) .jk, []⟩) = (
 ((ByteArray.size s) ≤ LIM) ∧
 bcase (cntB s) (
 bcase (decide ((numOf s) ≥ (1 : Int))) (
 q (mkB (decide ((numOf s) ≤ (1000000 : Int))))) (
 q (mkB false))) (
 q (mkB false))) := by kernel_rfl
theorem rCnt (s : BA) (q : AV → Prop) :
 (aCode KS [(65, .det FRead)] Tryz.b42 (kRet KS Tryz.f42.results.toList q) ⟨[mkS s] ++ List.replicate (Tryz.f42.ntmps - 1) .jk, []⟩) = (
 ((ByteArray.size s) ≤ LIM) ∧
 q (mkB (cntB s))) := by kernel_rfl
theorem rA1 (x : BA) (a : At) (q : AV → List Ob → Prop) :
 (aCode KS [] Tryz.b80 (kRetF KS Tryz.f80.results.toList q) ⟨[.ag [mkS a.1, mkS a.2], .rf 0 0] ++ List.replicate (Tryz.f80.ntmps - 2) .jk, [.box [mkS x], .gh [.rf 0 0]]⟩) = (
 q (mkB (decide ((Prod.fst a) = x))) [Ob.box [mkS x], Ob.gh [AV.rf 0 0], Ob.box [mkS (Prod.fst a), mkS (Prod.snd a)]]) := by kernel_rfl
def EAttr1 : REnt := fun al o q => ∃ (x : BA) (a : At), al = [.ag [mkS a.1, mkS a.2], .rf 0 0] ∧ o = [.box [mkS x], .gh [.rf 0 0]] ∧ q (mkB (decide (a.1 = x))) o
noncomputable def rIxF_k0 (q : AV → (List Ob) → Prop) : Kont := kBlk (0 : Nat) (kSeq (aCode KS [((80 : FuncId), En.ref (frameX EAttr1))] (cAt [1, 1] Tryz.b79) (kRetF KS (Array.toList (Func.results Tryz.f79)) q)) (kRetF KS (Array.toList (Func.results Tryz.f79)) q))
theorem rIxF (x : BA) (l : List At) (q : AV → List Ob → Prop) :
 (aCode KS [(80, .ref (frameX EAttr1))] Tryz.b79 (kRetF KS Tryz.f79.results.toList q) ⟨[.d (.sl (atsD l)), .fn (.func 80) [] [.rf 0 0]] ++ List.replicate (Tryz.f79.ntmps - 2) .jk, [.box [mkS x], .gh [.rf 0 0]]⟩) = (
 ((List.length (atsD l)) ≤ LIM) →
 ALoop (aCode KS [((80 : FuncId), En.ref (frameX EAttr1))] (cAt [1, 0, 1, 0, 0] Tryz.b79)) (rIxF_k0 q) ⟨[.d (.sl (atsD l)), .fn (Fn.func 80) [] [.rf 0 0], .jk, .jk, mkI .i64 0, .jk, .d (.sl (atsD l)), mkI .i64 ((List.length (atsD l)) : Int), mkI .i64 0] ++ (jks 10), [.box [mkS x], .gh [.rf 0 0]]⟩) := by kernel_rfl
def atIx (x : BA) : List At → Int
  | [] => -1
  | a :: l => if a.1 = x then 0 else if atIx x l < 0 then -1 else atIx x l + 1
def EIx : REnt := fun al o q => ∃ (x : BA) (l : List At), al = [.d (.sl (atsD l)), .fn (.func 80) [] [.rf 0 0]] ∧ o = [.box [mkS x], .gh [.rf 0 0]] ∧ l.length ≤ LIM ∧ q (mkI .i64 (atIx x l)) o
theorem rAttr (n : BA) (l : List At) (t : BA) (k : List El) (x : BA) (q : AV → Prop) :
 (aCode KS [(79, .ref (frameX EIx))] Tryz.b61 (kRet KS Tryz.f61.results.toList q) ⟨[.ag [mkS n, .d (.sl (atsD l)), mkS t, .d (.sl (ksD k))], mkS x] ++ List.replicate (Tryz.f61.ntmps - 2) .jk, []⟩) = (
 ∃ (x_1 : BA),
 ∃ (l_1 : List At),
 ([AV.d (.sl (atsD l)), AV.fn (Fn.func 80) [] [AV.rf 0 0]] = [AV.d (.sl (atsD l_1)), AV.fn (Fn.func 80) [] [AV.rf 0 0]]) ∧
 ([Ob.box [mkS x], Ob.gh [AV.rf 0 0]] = [Ob.box [mkS x_1], Ob.gh [AV.rf 0 0]]) ∧
 ((List.length l_1) ≤ LIM) ∧
 ((Option.some (Ob.gh [AV.rf 0 0])) = (Option.some (Ob.gh [AV.rf 0 0]))) ∧
 bcase (decide ((atIx x_1 l_1) < (0 : Int))) (
 q (AV.tp [mkS ⟨#[]⟩, mkB false])) (
 (((0 : Int) ≤ (atIx x_1 l_1)) ∧ ((atIx x_1 l_1) < ((List.length (atsD l)) : Int))) ∧
 ((List.length (List.getD (atsD l) (Int.toNat (atIx x_1 l_1)) [])) = 2) ∧
 ((1 : Nat) ≤ (List.length (List.drop 1 (List.getD (atsD l) (Int.toNat (atIx x_1 l_1)) [])))) ∧
 ((List.getD (List.drop 1 (List.getD (atsD l) (Int.toNat (atIx x_1 l_1)) [])) 0 d0) = (D.v (.string (strD (List.getD (List.drop 1 (List.getD (atsD l) (Int.toNat (atIx x_1 l_1)) [])) 0 d0))))) ∧
 q (AV.tp [mkS (strD (List.getD (List.drop 1 (List.getD (atsD l) (Int.toNat (atIx x_1 l_1)) [])) 0 d0)), mkB true]))) := by kernel_rfl
def EAttr : List AV → (AV → Prop) → Prop := fun al q => ∃ n l t k x, al = [.ag [mkS n, .d (.sl (atsD l)), mkS t, .d (.sl (ksD k))], mkS x] ∧ l.length ≤ LIM ∧ q (.tp [mkS (valueM l x), mkB (decide (0 ≤ atIx x l))])
theorem rVal (n : BA) (l : List At) (t : BA) (k : List El) (x : BA) (q : AV → Prop) :
 (aCode KS [(61, .pure EAttr)] Tryz.b39 (kRet KS Tryz.f39.results.toList q) ⟨[.ag [mkS n, .d (.sl (atsD l)), mkS t, .d (.sl (ksD k))], mkS x] ++ List.replicate (Tryz.f39.ntmps - 2) .jk, []⟩) = (
 ∃ (n_1 : ByteArray),
 ∃ (l_1 : List At),
 ∃ (t_1 : ByteArray),
 ∃ (k_1 : List El),
 ∃ (x_1 : ByteArray),
 ([AV.ag [mkS n, AV.d (.sl (atsD l)), mkS t, AV.d (.sl (ksD k))], mkS x] = [AV.ag [mkS n_1, AV.d (.sl (atsD l_1)), mkS t_1, AV.d (.sl (ksD k_1))], mkS x_1]) ∧
 ((List.length l_1) ≤ LIM) ∧
 q (mkS (valueM l_1 x_1))) := by kernel_rfl
def EVal : List AV → (AV → Prop) → Prop := fun al q => ∃ n l t k x, al = [.ag [mkS n, .d (.sl (atsD l)), mkS t, .d (.sl (ksD k))], mkS x] ∧ l.length ≤ LIM ∧ q (mkS (valueM l x))
theorem rH (n : BA) (l : List At) (t : BA) (k : List El) (x : BA) (q : AV → Prop) :
 (aCode KS [(39, .pure EVal), (65, .det FRead)] Tryz.b43 (kRet KS Tryz.f43.results.toList q) ⟨[.ag [mkS n, .d (.sl (atsD l)), mkS t, .d (.sl (ksD k))], mkS x] ++ List.replicate (Tryz.f43.ntmps - 2) .jk, []⟩) = (
 ∃ (n_1 : ByteArray),
 ∃ (l_1 : List At),
 ∃ (t_1 : ByteArray),
 ∃ (k_1 : List El),
 ∃ (x_1 : ByteArray),
 ([AV.ag [mkS n, AV.d (.sl (atsD l)), mkS t, AV.d (.sl (ksD k))], mkS x] = [AV.ag [mkS n_1, AV.d (.sl (atsD l_1)), mkS t_1, AV.d (.sl (ksD k_1))], mkS x_1]) ∧
 ((List.length l_1) ≤ LIM) ∧
 ((ByteArray.size (valueM l_1 x_1)) ≤ LIM) ∧
 q (mkI .u32 (numOf (valueM l_1 x_1)))) := by kernel_rfl
def stIx (x : BA) (l : List At) (i : Int) : S := ⟨[.d (.sl (atsD l)), .fn (.func 80) [] [.rf 0 0], .jk, .jk, mkI .i64 0, .jk, .d (.sl (atsD l)), mkI .i64 (atsD l).length, mkI .i64 i] ++ jks 10, [.box [mkS x], .gh [.rf 0 0]]⟩
theorem rIxF_b {ι : Type} (st : ι → S) (inv : ι → Prop) (μ : ι → Nat) (kk : ι) (x : BA) (l : List At) (i : Int) (q : AV → List Ob → Prop) :
 (aCode KS [(80, .ref (frameX EAttr1))] (cAt [1, 0, 1, 0, 0] Tryz.b79) (kFamM [] (maskOf (stIx x l i)) st inv μ kk (rIxF_k0 q)) (stIx x l i)) = (
 bcase (decide (i < ((List.length (atsD l)) : Int))) (
 (((0 : Int) ≤ i) ∧ (i < ((List.length (atsD l)) : Int))) ∧
 ((List.length (List.getD (atsD l) (Int.toNat i) [])) = 2) ∧
 (2 ≤ (List.length (List.getD (atsD l) (Int.toNat i) []))) ∧
 (((List.getD (List.getD (atsD l) (Int.toNat i) []) 0 d0) = (D.v (.string (strD (List.getD (List.getD (atsD l) (Int.toNat i) []) 0 d0))))) ∧ (((List.getD (List.drop 1 (List.getD (atsD l) (Int.toNat i) [])) 0 d0) = (D.v (.string (strD (List.getD (List.drop 1 (List.getD (atsD l) (Int.toNat i) [])) 0 d0))))) ∧ True)) ∧ (
 ∃ (x_1 : BA),
 ∃ (a : At),
 ([AV.ag [mkS (strD (List.getD (List.getD (atsD l) (Int.toNat i) []) 0 d0)), mkS (strD (List.getD (List.drop 1 (List.getD (atsD l) (Int.toNat i) [])) 0 d0))], AV.rf 0 0] = [AV.ag [mkS (Prod.fst a), mkS (Prod.snd a)], AV.rf 0 0]) ∧
 ([Ob.box [mkS x], Ob.gh [AV.rf 0 0]] = [Ob.box [mkS x_1], Ob.gh [AV.rf 0 0]]) ∧
 ((Option.some (Ob.gh [AV.rf 0 0])) = (Option.some (Ob.gh [AV.rf 0 0]))) ∧
 bcase (decide ((Prod.fst a) = x_1)) (
 q (mkI .i64 i) [Ob.box [mkS x], Ob.gh [AV.rf 0 0], Ob.gone, Ob.gone]) (
 FamNext st inv μ kk ⟨[.d (.sl (atsD l)), .fn (Fn.func 80) [] [.rf 0 0], .jk, .jk, mkI .i64 0, .jk, .d (.sl (atsD l)), mkI .i64 ((List.length (atsD l)) : Int), mkI .i64 (IntKind.wrap .i64 (i + (1 : Int)))] ++ (jks 10), [.box [mkS x], .gh [.rf 0 0], .gone, .gone]⟩))) (
 q (mkI .i64 (-(1 : Int))) [Ob.box [mkS x], Ob.gh [AV.rf 0 0]])) := by kernel_rfl
def FDig : List AV → Option (Prop × AV) := fun al => match al with
  | [.d (.v (.int .u8 n))] => some (0 ≤ n ∧ n < 256, mkI .u64 (IntKind.wrap .u64 (IntKind.wrap .u8 (n - 48))))
  | _ => none
theorem rDig (n : Int) (q : AV → Prop) :
 (aCode KS [] Tryz.b84 (kRet KS Tryz.f84.results.toList q) ⟨[mkI .u8 n] ++ List.replicate (Tryz.f84.ntmps - 1) .jk, []⟩) = (
 q (mkI .u64 (IntKind.wrap .u64 (IntKind.wrap .u8 (n - (48 : Int)))))) := by kernel_rfl
noncomputable abbrev GRd : List (FuncId × En) := [(84, .det FDig), (30, .det FTxt)]
noncomputable def rRd_k0 (q : AV → Prop) : Kont := kBlk (0 : Nat) (kSeq (aCode KS GRd (cAt [1, 1, 1] Tryz.b65) (kRet KS (Array.toList (Func.results Tryz.f65)) q)) (kRet KS (Array.toList (Func.results Tryz.f65)) q))
theorem rRd (s : BA) (q : AV → Prop) :
 (aCode KS GRd Tryz.b65 (kRet KS Tryz.f65.results.toList q) ⟨[mkS s] ++ List.replicate (Tryz.f65.ntmps - 1) .jk, []⟩) = (
 ((List.length (bytesD s)) ≤ LIM) →
 ALoop (aCode KS GRd (cAt [1, 1, 0, 1, 0, 0] Tryz.b65)) (rRd_k0 q) ⟨[mkS s, .jk, mkI .u32 0, mkB false, mkI .u64 0, .jk, .jk, .jk, mkS s, .d (.sl (bytesD s)), mkI .i64 ((List.length (bytesD s)) : Int), mkI .i64 0] ++ (jks 23), []⟩) := by kernel_rfl
def stRd (s : BA) (n i : Int) : S := ⟨[mkS s, .jk, mkI .u32 0, mkB false, mkI .u64 n, .jk, .jk, .jk, .jk, .d (.sl (bytesD s)), mkI .i64 (bytesD s).length, mkI .i64 i] ++ jks 23, []⟩
theorem rRd_b {ι : Type} (st : ι → S) (inv : ι → Prop) (μ : ι → Nat) (kk : ι) (s : BA) (n i : Int) (q : AV → Prop) :
 (aCode KS GRd (cAt [1, 1, 0, 1, 0, 0] Tryz.b65) (kFamM [] (maskOf (stRd s n i)) st inv μ kk (rRd_k0 q)) (stRd s n i)) = (
 bcase (decide (i < ((List.length (bytesD s)) : Int))) (
 (((0 : Int) ≤ i) ∧ (i < ((List.length (bytesD s)) : Int))) ∧
 ((List.length (List.getD (bytesD s) (Int.toNat i) [])) = 1) ∧
 ((1 : Nat) ≤ (List.length (List.getD (bytesD s) (Int.toNat i) []))) ∧
 ((List.getD (List.getD (bytesD s) (Int.toNat i) []) 0 d0) = (D.v (.int IntKind.u8 (intD (List.getD (List.getD (bytesD s) (Int.toNat i) []) 0 d0))))) ∧
 (((0 : Int) ≤ (intD (List.getD (List.getD (bytesD s) (Int.toNat i) []) 0 d0))) ∧ ((intD (List.getD (List.getD (bytesD s) (Int.toNat i) []) 0 d0)) < (256 : Int))) ∧
 bcase (decide ((IntKind.wrap .u64 (IntKind.wrap .u8 ((intD (List.getD (List.getD (bytesD s) (Int.toNat i) []) 0 d0)) - (48 : Int)))) > (9 : Int))) (
 q (AV.tp [mkI .u32 0, mkB false])) (
 bcase (decide ((IntKind.wrap .u64 ((IntKind.wrap .u64 ((10 : Int) * n)) + (IntKind.wrap .u64 (IntKind.wrap .u8 ((intD (List.getD (List.getD (bytesD s) (Int.toNat i) []) 0 d0)) - (48 : Int)))))) > (4294967295 : Int))) (
 q (AV.tp [mkI .u32 0, mkB false])) (
 FamNext st inv μ kk ⟨[mkS s, .jk, mkI .u32 0, mkB false, mkI .u64 (IntKind.wrap .u64 ((IntKind.wrap .u64 ((10 : Int) * n)) + (IntKind.wrap .u64 (IntKind.wrap .u8 ((intD (List.getD (List.getD (bytesD s) (Int.toNat i) []) 0 d0)) - (48 : Int)))))), .jk, .jk, .jk, .jk, .d (.sl (bytesD s)), mkI .i64 ((List.length (bytesD s)) : Int), mkI .i64 (IntKind.wrap .i64 (i + (1 : Int)))] ++ (jks 23), []⟩))) (
 (((0 : Int) ≤ (IntKind.wrap .u32 n)) ∧ ((IntKind.wrap .u32 n) ≤ (4294967295 : Int))) ∧
 bcase (!(decide ((decS (Int.toNat (IntKind.wrap .u32 n))) = s))) (
 q (AV.tp [mkI .u32 0, mkB false])) (
 q (AV.tp [mkI .u32 (IntKind.wrap .u32 n), mkB true])))) := by kernel_rfl
theorem cSR : PSound Tryz.prog 62 (detE FSR) := by
  refine ps1t Tryz.call62 fun al q h => ?_
  unfold detE at h
  split at h
  · rename_i p r hF
    unfold FSR at hF; split at hF <;> cases hF
    rename_i s
    refine ⟨_, rfl, fun p0 w hT => ?_⟩
    exact (right_calls s w (by simpa [plainV] using p0) hT).mono fun e w' ⟨h1, h2⟩ => ⟨_, _, h1, h.2, fun X => mkI_rel, h2⟩
  · exact h.elim
theorem cWord : PSound Tryz.prog 40 (detE (strF wordB)) := by
  refine det_fn (c := Tryz.b40) mixed KS_ok (gsound_det cSR gsound_nil) Tryz.func40 rfl rfl Tryz.call40 fun al p r q hF hp hq => ?_
  unfold strF at hF; split at hF <;> cases hF
  rename_i s
  refine cast (rWord s q).symm (bcase_mk (fun h _ => bcase_mk (fun h2 => ⟨hp, ?_⟩) (fun h2 => ?_)) (fun h => ?_))
  · have h1 : 1 ≤ s.size := by
      have : ¬ s.size = 0 := fun e => by rw [(size_zero s).2 e] at h; simp at h
      omega
    have h2 : s.size ≤ 40 := by have := of_decide_eq_true h2; omega
    have e : wordB s = ((if rightB s = true then (0 : Int) else 2) == 0) := by unfold wordB; simp only [h1, h2, decide_true, Bool.true_and]; cases rightB s <;> rfl
    rw [← e]; exact hq
  · have e : wordB s = false := by
      have : ¬ s.size ≤ 40 := fun e => by have := of_decide_eq_false h2; omega
      simp [wordB, this]
    rw [← e]; exact hq
  · have e : wordB s = false := by
      have : s = ⟨#[]⟩ := by simpa using h
      rw [this]; rfl
    rw [← e]; exact hq
theorem cAddrd : PSound Tryz.prog 37 (detE (strF addrE)) := by
  refine det_fn (c := Tryz.b37) mixed KS_ok (gsound_det c25 gsound_nil) Tryz.func37 rfl rfl Tryz.call37 fun al p r q hF hp hq => ?_
  unfold strF at hF; split at hF <;> cases hF
  rename_i s
  refine cast (rAddrd s q).symm ⟨hp, bcase_mk (fun h => ?_) (fun h => ?_)⟩
  · have e : addrE s = true := by unfold addrE; rw [h]; rfl
    rw [← e]; exact hq
  · have e : addrE s = addrB s := by unfold addrE; rw [h]; rfl
    rw [← e]; exact hq
theorem cPlace : PSound Tryz.prog 36 (detE (strF placeB)) := by
  refine det_fn (c := Tryz.b36) mixed KS_ok (gsound_det cAddrd gsound_nil) Tryz.func36 rfl rfl Tryz.call36 fun al p r q hF hp hq => ?_
  unfold strF at hF; split at hF <;> cases hF
  rename_i s
  refine cast (rPlace s q).symm (bcase_mk (fun h => ⟨hp, ?_⟩) (fun h => ?_))
  · have e : placeB s = addrE s := by unfold placeB; rw [h]; rfl
    rw [← e]; exact hq
  · have e : placeB s = false := by unfold placeB; rw [h]; rfl
    rw [← e]; exact hq
theorem cUserS : PSound Tryz.prog 12 (detE (strF userB)) := c19.det fun al p r hF hp q hq => by
  unfold strF at hF; split at hF <;> cases hF
  exact ⟨trivial, hq⟩
theorem cOne1 : RSound Tryz.prog 58 EOne1 := by
  refine ref_gen trimN trimN_ok (code_bsound (c := Tryz.b58) mixed KS_ok (gsound_det c20 gsound_nil)) KS_ok Tryz.func58 rfl rfl Tryz.call58 fun al o q ⟨l, x, h1, h2, _, hq⟩ => ?_
  subst h1 h2
  have e : unSS (strsD l) = l := unSS_strsD l
  refine cast (rOne1 l x (trimN q)).symm ⟨by rw [e], ?_⟩
  rw [e]
  exact ⟨_, [.box [mkSS l], .gh [.rf 0 0]], LeN.refl _, by simp [leO], by rfl, hq⟩
theorem cDig : PSound Tryz.prog 84 (detE FDig) := by
  refine det_fn (c := Tryz.b84) mixed KS_ok gsound_nil Tryz.func84 rfl rfl Tryz.call84 fun al p r q hF hp hq => ?_
  unfold FDig at hF; split at hF <;> cases hF
  exact cast (rDig _ q).symm hq
theorem dig_eq (c : UInt8) : IntKind.wrap .u64 (IntKind.wrap .u8 ((c.toNat : Int) - 48)) = (digB c : Nat) := by
  have := c.toNat_lt
  unfold digB
  rw [IntKind.wrap_u64, IntKind.wrap_u8]
  omega
theorem bytesD_getD (s : BA) (n : Nat) (h : n < s.data.toList.length) : (bytesD s).getD n [] = [.v (.int .u8 (s.data.toList[n]).toNat)] := by
  simp [bytesD, List.getD_eq_getElem?_getD, List.getElem?_eq_getElem h]
theorem bytesD_len (s : BA) : (bytesD s).length = s.data.toList.length := by simp [bytesD]
theorem cRead : PSound Tryz.prog 65 (detE FRead) := by
  refine det_fn (c := Tryz.b65) mixed KS_ok (gsound_det cDig (gsound_det cTxt gsound_nil)) Tryz.func65 rfl rfl Tryz.call65 fun al p r q hF hp hq => ?_
  unfold FRead at hF; split at hF <;> cases hF
  rename_i s
  have zero : readGo s.data.toList 0 = none → q (.tp [mkI .u32 0, mkB false]) := fun h => by
    have e1 : readN s = none := by unfold readN; rw [h]
    have e2 : numOf s = 0 := by unfold numOf; rw [e1]; rfl
    have e3 : cntB s = false := by unfold cntB; rw [e1]; rfl
    rw [e2, e3] at hq; exact hq
  refine cast (rRd s q).symm fun hl => ?_
  rw [bytesD_len] at hl
  refine ALoop.introM [] (maskOf (stRd s 0 0)) (fun x : Nat × Nat => stRd s x.2 x.1) (fun x => x.1 ≤ s.data.toList.length ∧ x.2 ≤ 4294967295 ∧ readGo (s.data.toList.drop x.1) x.2 = readGo s.data.toList 0) (fun x => s.data.toList.length - x.1) ⟨[], (0, 0), ?_, Nat.zero_le _, by decide, rfl⟩ ?_
  · simp [S.le, sealAll, leL, leA, jks, stRd, mkB, mkI, mkS]
  · rintro ⟨i, n⟩ ⟨hi, hn, hg⟩
    have hi : i ≤ s.data.toList.length := hi
    have hn : n ≤ 4294967295 := hn
    have hg : readGo (s.data.toList.drop i) n = readGo s.data.toList 0 := hg
    refine cast (rRd_b _ _ _ _ s n i q).symm (bcase_dec (fun hlt => ?_) (fun hge => ?_))
    · rw [bytesD_len] at hlt
      have hlt : i < s.data.toList.length := by omega
      have hgd := bytesD_getD s i hlt
      rw [List.drop_eq_getElem_cons hlt] at hg
      generalize s.data.toList[i] = c at hgd hg
      have hc := c.toNat_lt
      have hd : digB c < 256 := by unfold digB; omega
      have e1 : IntKind.wrap .u64 (10 * (n : Int)) = 10 * (n : Int) := IntWalk.u64_in _ (by omega)
      have e2 : IntKind.wrap .u64 (10 * (n : Int) + (digB c : Nat)) = ((10 * n + digB c : Nat) : Int) := by rw [IntWalk.u64_in _ (by omega)]; omega
      simp only [Int.toNat_natCast, hgd, List.getD_cons_zero, intD, dig_eq, e1, e2]
      generalize hR : readGo s.data.toList 0 = R at hg zero ⊢
      rw [readGo] at hg
      refine ⟨⟨by omega, by rw [bytesD_len]; omega⟩, rfl, Nat.le_refl _, by trivial, ⟨by omega, by omega⟩, bcase_dec (fun h => ?_) (fun h => bcase_dec (fun h2 => ?_) (fun h2 => ?_))⟩
      · rw [if_pos (.inl (by omega))] at hg; exact zero hg.symm
      · rw [if_pos (.inr (by omega))] at hg; exact zero hg.symm
      · rw [if_neg (by omega)] at hg
        refine .mk [] (i + 1, 10 * n + digB c) ?_ ⟨by show i + 1 ≤ _; omega, by show _ ≤ 4294967295; omega, hg⟩ (by show _ - (i + 1) < _ - i; omega)
        rw [wrap_succ hlt hl]
        simp [S.le, sealAll, leL, leA, jks, stRd, mkB, mkI, mkS]
    · rw [bytesD_len] at hge
      have e : i = s.data.toList.length := by omega
      subst e
      rw [List.drop_length] at hg
      have hg : readGo s.data.toList 0 = some n := hg.symm
      have e1 : IntKind.wrap .u32 (n : Int) = n := IntWalk.u32_in _ (by omega)
      rw [e1, Int.toNat_natCast]
      refine ⟨⟨by omega, by omega⟩, bcase_mk (fun h => ?_) (fun h => ?_)⟩
      · have h : ¬ decS n = s := by simpa using h
        have e1 : readN s = none := by unfold readN; rw [hg]; simp [h]
        have e2 : numOf s = 0 := by unfold numOf; rw [e1]; rfl
        have e3 : cntB s = false := by unfold cntB; rw [e1]; rfl
        rw [e2, e3] at hq; exact hq
      · have h : decS n = s := by simpa using h
        have e1 : readN s = some n := by unfold readN; rw [hg]; simp [h]
        have e2 : numOf s = n := by unfold numOf; rw [e1]; rfl
        have e3 : cntB s = true := by unfold cntB; rw [e1]; rfl
        rw [e2, e3] at hq; exact hq
theorem cNum : PSound Tryz.prog 63 (detE (strF numB)) := by
  refine det_fn (c := Tryz.b63) mixed KS_ok (gsound_det cRead gsound_nil) Tryz.func63 rfl rfl Tryz.call63 fun al p r q hF hp hq => ?_
  unfold strF at hF; split at hF <;> cases hF
  rename_i s
  refine cast (rNum s q).symm ⟨hp, ?_⟩
  unfold numB at hq
  cases h : readN s with
  | none =>
    rw [h] at hq
    have e3 : cntB s = false := by unfold cntB; rw [h]; rfl
    rw [e3]; exact hq
  | some n =>
    rw [h] at hq
    have e2 : numOf s = n := by unfold numOf; rw [h]; rfl
    have e3 : cntB s = true := by unfold cntB; rw [h]; rfl
    rw [e3, e2]
    refine bcase_dec (fun g => ?_) (fun g => ?_)
    · have g : 1 ≤ n := by omega
      have e : decide ((n : Int) ≤ 1000000) = decide (n ≤ 1000000) := decide_eq_decide.2 (by omega)
      simp only [g, decide_true, Bool.true_and] at hq
      rw [e]; exact hq
    · have g : ¬ 1 ≤ n := by omega
      simp only [g, decide_false, Bool.false_and] at hq
      exact hq
theorem cCnt : PSound Tryz.prog 42 (detE (strF cntB)) := by
  refine det_fn (c := Tryz.b42) mixed KS_ok (gsound_det cRead gsound_nil) Tryz.func42 rfl rfl Tryz.call42 fun al p r q hF hp hq => ?_
  unfold strF at hF; split at hF <;> cases hF
  exact cast (rCnt _ q).symm ⟨hp, hq⟩
theorem cAttr1 : RSound Tryz.prog 80 EAttr1 := by
  refine ref_gen trimN trimN_ok (code_bsound (c := Tryz.b80) mixed KS_ok gsound_nil) KS_ok Tryz.func80 rfl rfl Tryz.call80 fun al o q ⟨x, a, h1, h2, hq⟩ => ?_
  subst h1 h2
  exact cast (rA1 x a (trimN q)).symm ⟨_, [.box [mkS x], .gh [.rf 0 0]], LeN.refl _, by simp [leO], by rfl, hq⟩
theorem atIx_rng (x : BA) : ∀ l : List At, -1 ≤ atIx x l ∧ atIx x l < l.length
  | [] => by simp [atIx]
  | a :: l => by
    have := atIx_rng x l
    unfold atIx
    simp only [List.length_cons]
    split
    · omega
    · split <;> omega
theorem atIx_skip {x : BA} {l : List At} {n : Nat} (h : n < l.length) (hne : ¬ l[n].1 = x) : atIx x (l.drop n) = if atIx x (l.drop (n + 1)) < 0 then -1 else atIx x (l.drop (n + 1)) + 1 := by
  rw [List.drop_eq_getElem_cons h]; simp only [atIx, if_neg hne]
theorem atIx_find (x : BA) : ∀ l : List At, (l.find? fun a => decide (a.1 = x)) = if atIx x l < 0 then none else l[(atIx x l).toNat]?
  | [] => rfl
  | a :: l => by
    have ih := atIx_find x l
    have hr := atIx_rng x l
    rw [List.find?_cons]
    unfold atIx
    by_cases h : a.1 = x
    · simp [h]
    · simp only [h, decide_false, if_false]
      rw [ih]
      by_cases h2 : atIx x l < 0
      · simp [h2]
      · rw [if_neg h2, if_neg h2, if_neg (by omega)]
        rw [show (atIx x l + 1).toNat = (atIx x l).toNat + 1 by omega]
        rfl
theorem cIx : RSound Tryz.prog 79 EIx := by
  refine ref_gen trimN trimN_ok (code_bsound (c := Tryz.b79) mixed KS_ok (gsound_ref (RSound.frameX cAttr1) gsound_nil)) KS_ok Tryz.func79 rfl rfl Tryz.call79 fun al o q ⟨x, l, h1, h2, hll, hq⟩ => ?_
  subst h1 h2
  have fin : ∀ (n : Int) (o : List Ob), atIx x l = n → trimN q (mkI .i64 n) ([.box [mkS x], .gh [.rf 0 0]] ++ o) := fun n o e => ⟨_, [.box [mkS x], .gh [.rf 0 0]], LeN.refl _, by simp [leO], by rfl, by rw [← e]; exact hq⟩
  refine cast (rIxF x l (trimN q)).symm fun _ => ?_
  refine ALoop.introM [] (maskOf (stIx x l 0)) (fun n : Nat => stIx x l n) (fun n => n ≤ l.length ∧ atIx x l = if atIx x (l.drop n) < 0 then -1 else atIx x (l.drop n) + n) (fun n => l.length - n) ⟨[], 0, ?_, Nat.zero_le _, ?_⟩ fun n ⟨hn, hI⟩ => ?_
  · simp [S.le, sealAll, leL, leA, jks, stIx, mkB, mkI, mkS]
  · have := atIx_rng x l
    simp only [List.drop_zero]
    split <;> omega
  · refine cast (rIxF_b _ _ _ n x l n (trimN q)).symm (bcase_dec (fun hlt => ?_) (fun hge => ?_))
    · rw [atsD_len] at hlt
      have hlt : n < l.length := by omega
      have hgd := atsD_getD l n hlt
      simp only [Int.toNat_natCast, hgd, atD, List.getD_cons_zero, List.drop_succ_cons, List.drop_zero, strD]
      refine ⟨⟨by omega, by rw [atsD_len]; omega⟩, rfl, Nat.le_refl _, ⟨by trivial, by trivial, trivial⟩, x, l[n], rfl, rfl, by trivial, bcase_dec (fun h => ?_) (fun h => ?_)⟩
      · refine fin n _ ?_
        have : atIx x (l.drop n) = 0 := by rw [List.drop_eq_getElem_cons hlt]; simp [atIx, h]
        rw [hI, this]; simp
      · have hs := atIx_skip hlt h
        refine .mk [] (n + 1) ?_ ⟨hlt, ?_⟩ (by omega)
        · rw [wrap_succ hlt (Nat.le_trans hll (by decide))]
          simp [S.le, sealAll, leL, leA, leO, jks, stIx, mkB, mkI, mkS, S.fits, fitsL, AV.fits, Ob.fits]
        · have := atIx_rng x (l.drop (n + 1))
          rw [hI, hs]
          split
          · simp
          · rw [if_neg (by omega)]; omega
    · rw [atsD_len] at hge
      have e : n = l.length := by omega
      subst e
      rw [List.drop_length] at hI
      exact fin (-1) [] hI
theorem value_ix (x : BA) (l : List At) : valueM l x = if h : 0 ≤ atIx x l ∧ (atIx x l).toNat < l.length then (l[(atIx x l).toNat]'h.2).2 else ⟨#[]⟩ := by
  have hr := atIx_rng x l
  unfold valueM
  rw [atIx_find]
  by_cases h : atIx x l < 0
  · rw [if_pos h, dif_neg (by omega)]; rfl
  · have h2 : (atIx x l).toNat < l.length := by omega
    rw [if_neg h, dif_pos ⟨by omega, h2⟩, List.getElem?_eq_getElem h2]; rfl
theorem cAttr : PSound Tryz.prog 61 EAttr := by
  refine pure_fn (c := Tryz.b61) mixed KS_ok (gsound_ref (RSound.frameX cIx) gsound_nil) Tryz.func61 rfl rfl Tryz.call61 fun al q ⟨n, l, t, k, x, h1, hll, hq⟩ => ?_
  subst h1
  have hr := atIx_rng x l
  refine cast (rAttr n l t k x q).symm ⟨x, l, rfl, rfl, hll, rfl, bcase_dec (fun h => ?_) (fun h => ?_)⟩
  · rw [value_ix, dif_neg (by omega), decide_eq_false (by omega)] at hq
    exact hq
  · have h2 : (atIx x l).toNat < l.length := by omega
    have hgd := atsD_getD l _ h2
    rw [value_ix, dif_pos ⟨by omega, h2⟩, decide_eq_true (by omega)] at hq
    simp only [hgd, atD, List.getD_cons_zero, List.drop_succ_cons, List.drop_zero, strD]
    exact ⟨⟨by omega, by rw [atsD_len]; omega⟩, rfl, Nat.le_refl _, by trivial, hq⟩
theorem cVal : PSound Tryz.prog 39 EVal := by
  refine pure_fn (c := Tryz.b39) mixed KS_ok (gsound_pure cAttr gsound_nil) Tryz.func39 rfl rfl Tryz.call39 fun al q ⟨n, l, t, k, x, h1, hll, hq⟩ => ?_
  subst h1
  exact cast (rVal n l t k x q).symm ⟨n, l, t, k, x, rfl, hll, hq⟩
theorem value_size {l : List At} (h : atsFit l) (x : BA) : (valueM l x).size ≤ LIM := by
  rw [value_ix]
  split
  · exact (h _ (List.getElem_mem _)).2
  · decide
def EHn : List AV → (AV → Prop) → Prop := fun al q => ∃ n l t k x, al = [.ag [mkS n, .d (.sl (atsD l)), mkS t, .d (.sl (ksD k))], mkS x] ∧ (l.length ≤ LIM ∧ atsFit l) ∧ q (mkI .u32 (numOf (valueM l x)))
theorem cHn : PSound Tryz.prog 43 EHn := by
  refine pure_fn (c := Tryz.b43) mixed KS_ok (gsound_pure cVal (gsound_det cRead gsound_nil)) Tryz.func43 rfl rfl Tryz.call43 fun al q ⟨n, l, t, k, x, h1, ⟨hll, hf⟩, hq⟩ => ?_
  subst h1
  exact cast (rH n l t k x q).symm ⟨n, l, t, k, x, rfl, hll, value_size hf x, hq⟩
theorem gf_ok : GSound Tryz.prog GF := gsound_det cWord (gsound_det cCnt (gsound_det cNum (gsound_det cUserS (gsound_det cPlace (gsound_ref (RSound.frameX cOne1) gsound_nil)))))
end Go.Proofs.YtfdmmgiefhhnoaaGreatDoor
