import Derived.Test.YtgidbnonalbeeaaDoorBindUser
set_option linter.unusedSimpArgs false
set_option linter.unusedVariables false
namespace Go.Proofs.YtgidbnonalbeeaaDoor
open Go Go.AM Go.RowKit

def slash : ByteArray := ⟨#[47]⟩

def F57 : List AV → Option (Prop × AV) := fun al => match al with
  | [.d (.v (.string s)), .d (.v (.string c))] => some (c = slash, mkI .i64 (Lib.indexByte s.data.toList 47))
  | _ => none
theorem c57 : PSound Tryd.prog 57 (detE F57) := by
  refine ps2 Tryd.call57 fun al q h => ?_
  unfold detE at h
  split at h
  · rename_i p r hF
    unfold F57 at hF; split at hF <;> cases hF
    rename_i s c
    obtain ⟨rfl, hq⟩ := h
    refine ⟨_, _, rfl, fun _ _ w => ?_⟩
    exact (Tryd.stringslite_Index_one s 47 w).mono fun e w' ⟨h1, h2⟩ => ⟨_, _, h1, hq, fun X => mkI_rel, h2 ▸ Below.refl _ _⟩
  · exact h.elim

noncomputable abbrev G44 : List (FuncId × En) := [(57, .det F57)]
theorem r44 (s : ByteArray) (q : AV → Prop) :
  (aCode Tryd.K G44 Tryd.b44 (kRet Tryd.K Tryd.f44.results.toList q) ⟨[mkS s, mkS slash] ++ List.replicate (Tryd.f44.ntmps - 2) .jk, []⟩) = (
  (YtgidbnonalbeeaaDoor.slash = YtgidbnonalbeeaaDoor.slash) ∧
  bcase (decide ((Lib.indexByte (Array.toList (ByteArray.data s)) (47 : UInt8)) ≥ (0 : Int))) (
   (((0 : Int) ≤ (Lib.indexByte (Array.toList (ByteArray.data s)) (47 : UInt8))) ∧ ((Lib.indexByte (Array.toList (ByteArray.data s)) (47 : UInt8)) ≤ ((ByteArray.size s) : Int))) ∧ (
    ((ByteArray.size YtgidbnonalbeeaaDoor.slash) ≤ LIM) →
    (((0 : Int) ≤ (IntKind.wrap IntKind.i64 ((Lib.indexByte (Array.toList (ByteArray.data s)) (47 : UInt8)) + ((ByteArray.size YtgidbnonalbeeaaDoor.slash) : Int)))) ∧ ((IntKind.wrap IntKind.i64 ((Lib.indexByte (Array.toList (ByteArray.data s)) (47 : UInt8)) + ((ByteArray.size YtgidbnonalbeeaaDoor.slash) : Int))) ≤ ((ByteArray.size s) : Int))) ∧
    q (AV.tp [mkS (ByteArray.extract s (0 : Nat) (Int.toNat (Lib.indexByte (Array.toList (ByteArray.data s)) (47 : UInt8)))), mkS (ByteArray.extract s (Int.toNat (IntKind.wrap IntKind.i64 ((Lib.indexByte (Array.toList (ByteArray.data s)) (47 : UInt8)) + ((ByteArray.size YtgidbnonalbeeaaDoor.slash) : Int)))) (ByteArray.size s)), mkB true]))) (
   q (AV.tp [mkS s, mkS (⟨#[]⟩ : ByteArray), mkB false]))) := by kernel_rfl

/-- The text cut at its first slash. -/
def cutI (s : ByteArray) : Int := Lib.indexByte s.data.toList 47
def cutU (s : ByteArray) : ByteArray := if cutI s ≥ 0 then s.extract 0 (cutI s).toNat else s
def cutD (s : ByteArray) : ByteArray := if cutI s ≥ 0 then s.extract ((cutI s).toNat + 1) s.size else ⟨#[]⟩
def cutB (s : ByteArray) : Bool := decide (cutI s ≥ 0)
theorem cutI_lt {s : ByteArray} (h : 0 ≤ cutI s) : (cutI s).toNat < s.size := by
  have e : Lib.indexByte s.data.toList 47 = ((cutI s).toNat : Int) := by unfold cutI at *; omega
  have := (Lib.indexByte_some e).1
  rcases Nat.lt_or_ge (cutI s).toNat s.data.toList.length with h | h
  · have e2 : s.data.toList.length = s.size := Array.length_toList
    omega
  · rw [List.getElem?_eq_none h] at this; cases this
def F44 : List AV → Option (Prop × AV) := fun al => match al with
  | [.d (.v (.string s)), .d (.v (.string c))] => some (c = slash ∧ s.size ≤ LIM, .tp [mkS (cutU s), mkS (cutD s), mkB (cutB s)])
  | _ => none
theorem c44 : PSound Tryd.prog 44 (detE F44) := by
  refine det_fn (c := Tryd.b44) mixed Tryd.K_ok (gsound_det c57 gsound_nil) Tryd.func44 rfl rfl Tryd.call44 fun al p r q hF hp hq => ?_
  unfold F44 at hF; split at hF <;> cases hF
  rename_i s c
  obtain ⟨rfl, hs⟩ := hp
  refine cast (r44 _ q).symm ?_
  change slash = slash ∧ bcase (decide (cutI s ≥ 0)) _ _
  refine ⟨rfl, bcase_mk (fun h => ?_) (fun h => ?_)⟩
  · have h : 0 ≤ cutI s := of_decide_eq_true h
    have hlt := cutI_lt h
    change (0 ≤ cutI s ∧ cutI s ≤ _) ∧ (_ → (0 ≤ IntKind.i64.wrap (cutI s + 1) ∧ IntKind.i64.wrap (cutI s + 1) ≤ _) ∧ q (.tp [mkS (s.extract 0 (cutI s).toNat), mkS (s.extract (IntKind.i64.wrap (cutI s + 1)).toNat s.size), mkB true]))
    rw [LIM] at hs
    rw [IntWalk.i64_in _ (by omega)]
    refine ⟨⟨h, by omega⟩, fun _ => ⟨⟨by omega, by omega⟩, ?_⟩⟩
    have e : (cutI s + 1).toNat = (cutI s).toNat + 1 := by omega
    rw [e]
    rw [show cutU s = s.extract 0 (cutI s).toNat from if_pos h, show cutD s = s.extract ((cutI s).toNat + 1) s.size from if_pos h, show cutB s = true from decide_eq_true h] at hq
    exact hq
  · have h : ¬ 0 ≤ cutI s := of_decide_eq_false h
    rw [show cutU s = s from if_neg h, show cutD s = ⟨#[]⟩ from if_neg h, show cutB s = false from decide_eq_false h] at hq
    exact hq

noncomputable abbrev G33 : List (FuncId × En) := [(44, .det F44)]
theorem r33 (s : ByteArray) (q : AV → Prop) :
  (aCode Tryd.K G33 Tryd.b33 (kRet Tryd.K Tryd.f33.results.toList q) ⟨[mkS s, mkS slash] ++ List.replicate (Tryd.f33.ntmps - 2) .jk, []⟩) = (
  ((YtgidbnonalbeeaaDoor.slash = YtgidbnonalbeeaaDoor.slash) ∧ ((ByteArray.size s) ≤ LIM)) ∧
  q (AV.tp [mkS (YtgidbnonalbeeaaDoor.cutU s), mkS (YtgidbnonalbeeaaDoor.cutD s), mkB (YtgidbnonalbeeaaDoor.cutB s)])) := by kernel_rfl

theorem c33 : PSound Tryd.prog 33 (detE F44) := by
  refine det_fn (c := Tryd.b33) mixed Tryd.K_ok (gsound_det c44 gsound_nil) Tryd.func33 rfl rfl Tryd.call33 fun al p r q hF hp hq => ?_
  unfold F44 at hF; split at hF <;> cases hF
  obtain ⟨rfl, hs⟩ := hp
  exact cast (r33 _ q).symm ⟨⟨rfl, hs⟩, hq⟩

noncomputable abbrev G25 : List (FuncId × En) := [(33, .det F44), (19, .det F19)]
theorem r25 (s : ByteArray) (q : AV → Prop) :
  (aCode Tryd.K G25 Tryd.b25 (kRet Tryd.K Tryd.f25.results.toList q) ⟨[mkS s] ++ List.replicate (Tryd.f25.ntmps - 1) .jk, []⟩) = (
  ((YtgidbnonalbeeaaDoor.slash = YtgidbnonalbeeaaDoor.slash) ∧ ((ByteArray.size s) ≤ LIM)) ∧
  True ∧
  bcase (YtgidbnonalbeeaaDoor.userB (YtgidbnonalbeeaaDoor.cutU s)) (
   bcase (!(YtgidbnonalbeeaaDoor.cutB s)) (
    q (AV.tp [mkS (YtgidbnonalbeeaaDoor.cutU s), mkS (YtgidbnonalbeeaaDoor.cutD s), mkB true])) (
    True ∧
    q (AV.tp [mkS (YtgidbnonalbeeaaDoor.cutU s), mkS (YtgidbnonalbeeaaDoor.cutD s), mkB (YtgidbnonalbeeaaDoor.userB (YtgidbnonalbeeaaDoor.cutD s))]))) (
   q (AV.tp [mkS (YtgidbnonalbeeaaDoor.cutU s), mkS (YtgidbnonalbeeaaDoor.cutD s), mkB false]))) := by kernel_rfl

/-- Is it an address? -/
def addrB (s : ByteArray) : Bool := userB (cutU s) && (!cutB s || userB (cutD s))
def F25 : List AV → Option (Prop × AV) := fun al => match al with
  | [.d (.v (.string s))] => some (s.size ≤ LIM, .tp [mkS (cutU s), mkS (cutD s), mkB (addrB s)])
  | _ => none
theorem c25 : PSound Tryd.prog 25 (detE F25) := by
  refine det_fn (c := Tryd.b25) mixed Tryd.K_ok (gsound_det c33 (gsound_det c19 gsound_nil)) Tryd.func25 rfl rfl Tryd.call25 fun al p r q hF hp hq => ?_
  unfold F25 at hF; split at hF <;> cases hF
  refine cast (r25 _ q).symm ⟨⟨rfl, hp⟩, trivial, bcase_mk (fun h => bcase_mk (fun h2 => ?_) (fun h2 => ⟨trivial, ?_⟩)) (fun h => ?_)⟩
  · simpa [addrB, h, h2] using hq
  · simpa [addrB, h, h2] using hq
  · simpa [addrB, h] using hq

noncomputable abbrev G15 : List (FuncId × En) := [(25, .det F25)]
theorem r15 (s u d : ByteArray) (q : AV → Prop) :
  (aCode Tryd.K G15 Tryd.b15 (kRet Tryd.K Tryd.f15.results.toList q) ⟨[mkS s, mkS u, mkS d] ++ List.replicate (Tryd.f15.ntmps - 3) .jk, []⟩) = (
  ((ByteArray.size s) ≤ LIM) ∧
  bcase (YtgidbnonalbeeaaDoor.addrB s) (
   bcase (decide ((YtgidbnonalbeeaaDoor.cutU s) = u)) (
    bcase (decide ((YtgidbnonalbeeaaDoor.cutD s) = (⟨#[]⟩ : ByteArray))) (
     q (mkB true)) (
     q (mkB (decide ((YtgidbnonalbeeaaDoor.cutD s) = d))))) (
    q (mkB false))) (
   q (mkB false))) := by kernel_rfl

def meantB (s u d : ByteArray) : Bool := addrB s && decide (cutU s = u) && (decide (cutD s = ⟨#[]⟩) || decide (cutD s = d))
def F15 : List AV → Option (Prop × AV) := fun al => match al with
  | [.d (.v (.string s)), .d (.v (.string u)), .d (.v (.string d))] => some (s.size ≤ LIM, mkB (meantB s u d))
  | _ => none
theorem c15 : PSound Tryd.prog 15 (detE F15) := by
  refine det_fn (c := Tryd.b15) mixed Tryd.K_ok (gsound_det c25 gsound_nil) Tryd.func15 rfl rfl Tryd.call15 fun al p r q hF hp hq => ?_
  unfold F15 at hF; split at hF <;> cases hF
  refine cast (r15 _ _ _ q).symm ⟨hp, bcase_mk (fun h => bcase_mk (fun h2 => bcase_mk (fun h3 => ?_) (fun h3 => ?_)) (fun h2 => ?_)) (fun h => ?_)⟩
  all_goals
    simp only [meantB] at hq
    simp_all

noncomputable abbrev G13 : List (FuncId × En) := [(19, .det F19)]
theorem r13 (u d : ByteArray) (q : AV → Prop) :
  (aCode Tryd.K G13 Tryd.b13 (kRet Tryd.K Tryd.f13.results.toList q) ⟨[mkS u, mkS d] ++ List.replicate (Tryd.f13.ntmps - 2) .jk, []⟩) = (
  True ∧
  bcase (!(YtgidbnonalbeeaaDoor.userB u)) (
   q (AV.tp [mkS (⟨#[]⟩ : ByteArray), mkI IntKind.i64 (1 : Int)])) (
   bcase (!(decide (d = (⟨#[]⟩ : ByteArray)))) (
    True ∧
    bcase (!(YtgidbnonalbeeaaDoor.userB d)) (
     q (AV.tp [mkS (⟨#[]⟩ : ByteArray), mkI IntKind.i64 (1 : Int)])) (
     bcase (decide (d = (⟨#[]⟩ : ByteArray))) (
      q (AV.tp [mkS u, mkI IntKind.i64 (0 : Int)])) (
      (((ByteArray.size u) + (ByteArray.size YtgidbnonalbeeaaDoor.slash)) ≤ LIM) ∧
      (((ByteArray.size (u ++ YtgidbnonalbeeaaDoor.slash)) + (ByteArray.size d)) ≤ LIM) ∧
      q (AV.tp [mkS ((u ++ YtgidbnonalbeeaaDoor.slash) ++ d), mkI IntKind.i64 (0 : Int)])))) (
    bcase (decide (d = (⟨#[]⟩ : ByteArray))) (
     q (AV.tp [mkS u, mkI IntKind.i64 (0 : Int)])) (
     (((ByteArray.size u) + (ByteArray.size YtgidbnonalbeeaaDoor.slash)) ≤ LIM) ∧
     (((ByteArray.size (u ++ YtgidbnonalbeeaaDoor.slash)) + (ByteArray.size d)) ≤ LIM) ∧
     q (AV.tp [mkS ((u ++ YtgidbnonalbeeaaDoor.slash) ++ d), mkI IntKind.i64 (0 : Int)]))))) := by kernel_rfl

def fullF (u d : ByteArray) : ByteArray × Int := if userB u = false ∨ (d ≠ ⟨#[]⟩ ∧ userB d = false) then (⟨#[]⟩, 1) else if d = ⟨#[]⟩ then (u, 0) else (u ++ slash ++ d, 0)
def F13 : List AV → Option (Prop × AV) := fun al => match al with
  | [.d (.v (.string u)), .d (.v (.string d))] => some (True, .tp [mkS (fullF u d).1, mkI .i64 (fullF u d).2])
  | _ => none
theorem user_size {s : ByteArray} (h : userB s = true) : s.size ≤ 16 := by
  simp only [userB, Bool.and_eq_true, decide_eq_true_eq] at h; exact h.1.2
theorem c13 : PSound Tryd.prog 13 (detE F13) := by
  refine det_fn (c := Tryd.b13) mixed Tryd.K_ok (gsound_det c19 gsound_nil) Tryd.func13 rfl rfl Tryd.call13 fun al p r q hF hp hq => ?_
  unfold F13 at hF; split at hF <;> cases hF
  rename_i u d
  refine cast (r13 _ _ q).symm ⟨trivial, bcase_mk (fun h => ?_) (fun h => bcase_mk (fun h2 => ⟨trivial, bcase_mk (fun h3 => ?_) (fun h3 => bcase_mk (fun h4 => ?_) (fun h4 => ?_))⟩) (fun h2 => bcase_mk (fun h3 => ?_) (fun h3 => ?_)))⟩
  · have h : userB u = false := by simpa using h
    simpa [fullF, h] using hq
  · have h : userB u = true := by simpa using h
    have h2 : ¬ d = ⟨#[]⟩ := by simpa using h2
    have h3 : userB d = false := by simpa using h3
    simpa [fullF, h, h2, h3] using hq
  · exact absurd (of_decide_eq_true h4) (by simpa using h2)
  · have h : userB u = true := by simpa using h
    have h2 : ¬ d = ⟨#[]⟩ := by simpa using h2
    have h3 : userB d = true := by simpa using h3
    have := user_size h
    have := user_size h3
    have : slash.size = 1 := rfl
    refine ⟨by unfold LIM; omega, by unfold LIM; rw [ByteArray.size_append]; omega, ?_⟩
    simpa [fullF, h, h2, h3] using hq
  · have h : userB u = true := by simpa using h
    have h3 : d = ⟨#[]⟩ := of_decide_eq_true h3
    simpa [fullF, h, h3] using hq
  · exact absurd (by simpa using h2) (of_decide_eq_false h3)

noncomputable abbrev G9 : List (FuncId × En) := [(19, .det F19), (20, .det F20), (21, .det F21)]
noncomputable def r9_k0 (q : AV → Prop) : Kont := kBlk (0 : Nat) (kSeq (aCode Tryd.K YtgidbnonalbeeaaDoor.G9 (cAt [1, 1, 1, 1] Tryd.b9) (kRet Tryd.K (Array.toList (Func.results Tryd.f9)) q)) (kRet Tryd.K (Array.toList (Func.results Tryd.f9)) q))
theorem r9 (w : ByteArray) (es : List (List D)) (q : AV → Prop) :
  (aCode Tryd.K G9 Tryd.b9 (kRet Tryd.K Tryd.f9.results.toList q) ⟨[mkS w, .d (.sl es)] ++ List.replicate (Tryd.f9.ntmps - 2) .jk, []⟩) = (
  bcase (!(decide (w = (⟨#[]⟩ : ByteArray)))) (
   True ∧
   bcase (!(YtgidbnonalbeeaaDoor.userB w)) (
    q (AV.tp [mkS (⟨#[]⟩ : ByteArray), mkB false, mkI IntKind.i64 (1 : Int)])) (
    bcase (!(decide (w = (⟨#[]⟩ : ByteArray)))) (
     (es = (strsD (unSS es))) ∧
     q (AV.tp [mkS w, mkB (memB w (unSS es)), mkI IntKind.i64 (0 : Int)])) (
     ALoop (aCode Tryd.K YtgidbnonalbeeaaDoor.G9 (cAt [1, 1, 1, 0, 1, 0, 0] Tryd.b9)) (YtgidbnonalbeeaaDoor.r9_k0 q) ⟨[mkS w, AV.d (D.sl es), AV.jk, AV.jk, mkS (⟨#[]⟩ : ByteArray), mkB false, mkI IntKind.i64 (0 : Int), AV.jk, AV.jk, mkS w, mkB (!(decide (w = (⟨#[]⟩ : ByteArray)))), mkB true, mkS w, mkB (YtgidbnonalbeeaaDoor.userB w), mkB (!(YtgidbnonalbeeaaDoor.userB w)), mkB false, mkS w, mkB false, AV.jk, AV.jk, AV.jk, AV.jk, mkI IntKind.i64 (0 : Int), AV.jk, AV.jk, AV.jk, AV.jk, AV.jk, AV.jk, AV.jk, AV.jk, AV.jk, AV.jk, AV.jk, AV.jk], []⟩))) (
   bcase (!(decide (w = (⟨#[]⟩ : ByteArray)))) (
    (es = (strsD (unSS es))) ∧
    q (AV.tp [mkS w, mkB (memB w (unSS es)), mkI IntKind.i64 (0 : Int)])) (
    ALoop (aCode Tryd.K YtgidbnonalbeeaaDoor.G9 (cAt [1, 1, 1, 0, 1, 0, 0] Tryd.b9)) (YtgidbnonalbeeaaDoor.r9_k0 q) ⟨[mkS w, AV.d (D.sl es), AV.jk, AV.jk, mkS (⟨#[]⟩ : ByteArray), mkB false, mkI IntKind.i64 (0 : Int), AV.jk, AV.jk, mkS w, mkB (!(decide (w = (⟨#[]⟩ : ByteArray)))), mkB false, AV.tp [], AV.tp [], AV.tp [], mkB false, mkS w, mkB false, AV.jk, AV.jk, AV.jk, AV.jk, mkI IntKind.i64 (0 : Int), AV.jk, AV.jk, AV.jk, AV.jk, AV.jk, AV.jk, AV.jk, AV.jk, AV.jk, AV.jk, AV.jk, AV.jk], []⟩))) := by kernel_rfl

def st9 (es : List (List D)) (n : Int) : S := ⟨[.jk, .d (.sl es), .jk, .jk, mkS ⟨#[]⟩, mkB false, mkI .i64 0, .jk, .jk, .jk, .jk, .jk, .jk, .jk, .jk, .jk, .jk, .jk, .jk, .jk, .jk, .jk, mkI .i64 n, .jk, .jk, .jk, .jk, .jk, .jk, .jk, .jk, .jk, .jk, .jk, .jk], []⟩
theorem r9_b {ι : Type} (st : ι → S) (inv : ι → Prop) (μ : ι → Nat) (k : ι) (es : List (List D)) (n : Int) (q : AV → Prop) :
  (aCode Tryd.K G9 (cAt [1, 1, 1, 0, 1, 0, 0] Tryd.b9) (kFam st inv μ k (r9_k0 q)) (st9 es n)) = (
  bcase (decide (n < (99 : Int))) (
   (((0 : Int) ≤ (IntKind.wrap IntKind.i64 (n + (1 : Int)))) ∧ ((IntKind.wrap IntKind.i64 (n + (1 : Int))) < (100 : Int))) ∧
   (((ByteArray.size (⟨#[(100 : UInt8)]⟩ : ByteArray)) + (ByteArray.size (YtgidbnonalbeeaaDoor.itoaS (IntKind.wrap IntKind.i64 (n + (1 : Int)))))) ≤ LIM) ∧
   (es = (strsD (unSS es))) ∧
   bcase (!(memB ((⟨#[(100 : UInt8)]⟩ : ByteArray) ++ (YtgidbnonalbeeaaDoor.itoaS (IntKind.wrap IntKind.i64 (n + (1 : Int))))) (unSS es))) (
    q (AV.tp [mkS ((⟨#[(100 : UInt8)]⟩ : ByteArray) ++ (YtgidbnonalbeeaaDoor.itoaS (IntKind.wrap IntKind.i64 (n + (1 : Int))))), mkB false, mkI IntKind.i64 (0 : Int)])) (
    FamNext st inv μ k ⟨[AV.jk, AV.d (D.sl es), AV.jk, AV.jk, mkS (⟨#[]⟩ : ByteArray), mkB false, mkI IntKind.i64 (0 : Int), mkI IntKind.i64 n, mkS ((⟨#[(100 : UInt8)]⟩ : ByteArray) ++ (YtgidbnonalbeeaaDoor.itoaS (IntKind.wrap IntKind.i64 (n + (1 : Int))))), AV.jk, AV.jk, AV.jk, AV.jk, AV.jk, AV.jk, AV.jk, AV.jk, AV.jk, AV.jk, AV.jk, AV.jk, AV.jk, mkI IntKind.i64 (IntKind.wrap IntKind.i64 (n + (1 : Int))), mkB true, mkI IntKind.i64 n, mkI IntKind.i64 n, mkI IntKind.i64 (IntKind.wrap IntKind.i64 (n + (1 : Int))), mkS (YtgidbnonalbeeaaDoor.itoaS (IntKind.wrap IntKind.i64 (n + (1 : Int)))), mkS ((⟨#[(100 : UInt8)]⟩ : ByteArray) ++ (YtgidbnonalbeeaaDoor.itoaS (IntKind.wrap IntKind.i64 (n + (1 : Int))))), AV.d (D.sl es), mkS ((⟨#[(100 : UInt8)]⟩ : ByteArray) ++ (YtgidbnonalbeeaaDoor.itoaS (IntKind.wrap IntKind.i64 (n + (1 : Int))))), mkB (memB ((⟨#[(100 : UInt8)]⟩ : ByteArray) ++ (YtgidbnonalbeeaaDoor.itoaS (IntKind.wrap IntKind.i64 (n + (1 : Int))))) (unSS es)), mkB false, AV.jk, mkI IntKind.i64 (IntKind.wrap IntKind.i64 (n + (1 : Int)))], []⟩)) (
   q (AV.tp [mkS (⟨#[]⟩ : ByteArray), mkB false, mkI IntKind.i64 (9 : Int)]))) := by kernel_rfl

def devName (n : Int) : ByteArray := ⟨#[100]⟩ ++ itoaS n
/-- The first name that isn't taken, of those from n on. -/
def pickFrom (l : List ByteArray) : Nat → Nat → ByteArray × Int
  | 0, _ => (⟨#[]⟩, 9)
  | f + 1, n => if memB (devName ((n : Int) + 1)) l = true then pickFrom l f (n + 1) else (devName ((n : Int) + 1), 0)
def pickF (w : ByteArray) (l : List ByteArray) : ByteArray × Bool × Int :=
  if w = ⟨#[]⟩ then ((pickFrom l 99 0).1, false, (pickFrom l 99 0).2) else if userB w = true then (w, memB w l, 0) else (⟨#[]⟩, false, 1)
def F9 : List AV → Option (Prop × AV) := fun al => match al with
  | [.d (.v (.string w)), .d (.sl es)] => some (es = strsD (unSS es), .tp [mkS (pickF w (unSS es)).1, mkB (pickF w (unSS es)).2.1, mkI .i64 (pickF w (unSS es)).2.2])
  | _ => none
theorem c9 : PSound Tryd.prog 9 (detE F9) := by
  refine det_fn (c := Tryd.b9) mixed Tryd.K_ok (gsound_det c19 (gsound_det c20 (gsound_det c21 gsound_nil))) Tryd.func9 rfl rfl Tryd.call9 fun al p r q hF hp hq => ?_
  unfold F9 at hF; split at hF <;> cases hF
  rename_i w es
  generalize unSS es = l at hp hq
  subst hp
  have loop : w = ⟨#[]⟩ → ∀ s : S, s.le (st9 (strsD l) 0) → ALoop (aCode Tryd.K G9 (cAt [1, 1, 1, 0, 1, 0, 0] Tryd.b9)) (r9_k0 q) s := by
    intro hw s hle
    rw [pickF, if_pos hw] at hq
    refine ALoop.intro (fun n : Nat => st9 (strsD l) n) (fun n => n ≤ 99 ∧ pickFrom l 99 0 = pickFrom l (99 - n) n) (fun n => 99 - n) ⟨[], 0, hle, by simp⟩ fun n hn => ?_
    refine cast (r9_b _ _ _ _ _ _ _).symm ?_
    refine bcase_mk (fun h => ?_) (fun h => ?_)
    · have hlt : (n : Int) < 99 := of_decide_eq_true h
      have hw : IntKind.i64.wrap ((n : Int) + 1) = (n : Int) + 1 := IntWalk.i64_in _ (by omega)
      rw [hw]
      have hsz := itoaS_size (n := (n : Int) + 1) (by omega) (by omega)
      have hs1 : (⟨#[100]⟩ : ByteArray).size = 1 := rfl
      refine ⟨⟨by omega, by omega⟩, by unfold LIM; omega, by simp, ?_⟩
      simp only [unSS_strsD]
      obtain ⟨f, hf⟩ : ∃ f, 99 - n = f + 1 := ⟨98 - n, by omega⟩
      have hp := hn.2
      have hstep : pickFrom l (f + 1) n = if memB (devName ((n : Int) + 1)) l = true then pickFrom l f (n + 1) else (devName ((n : Int) + 1), 0) := rfl
      rw [hf, hstep] at hp
      refine bcase_mk (fun h => ?_) (fun h => ?_)
      · have h : memB (devName ((n : Int) + 1)) l = false := by simpa [devName] using h
        rw [h] at hp
        rw [hp] at hq
        exact hq
      · have h : memB (devName ((n : Int) + 1)) l = true := by simpa [devName] using h
        rw [h] at hp
        refine ⟨[], n + 1, ?_, ⟨by omega, ?_⟩, show 99 - (n + 1) < 99 - n by omega⟩
        · simp [S.le, sealAll, leL, jks, st9]
        · rw [hp, if_pos rfl, show 99 - (n + 1) = f by omega]
    · have hge : ¬ (n : Int) < 99 := of_decide_eq_false h
      have hn9 : n = 99 := by omega
      have hp := hn.2
      subst hn9
      rw [hp] at hq
      exact hq
  refine cast (r9 _ _ q).symm ?_
  refine bcase_mk (fun h => ⟨trivial, bcase_mk (fun h2 => ?_) (fun h2 => bcase_mk (fun h3 => ?_) (fun h3 => ?_))⟩) (fun h => bcase_mk (fun h2 => ?_) (fun h2 => ?_))
  · have h : ¬ w = ⟨#[]⟩ := by simpa using h
    have h2 : userB w = false := by simpa using h2
    simpa [pickF, h, h2] using hq
  · have h : ¬ w = ⟨#[]⟩ := by simpa using h
    have h2 : userB w = true := by simpa using h2
    refine ⟨by simp, ?_⟩
    simpa [pickF, h, h2] using hq
  · exact loop (by simpa using h3) _ (by simp [S.le, sealAll, leL, jks, st9])
  · rw [h] at h2; cases h2
  · exact loop (by simpa using h2) _ (by simp [S.le, sealAll, leL, jks, st9])

end Go.Proofs.YtgidbnonalbeeaaDoor
