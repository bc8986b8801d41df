import Derived.Test.YtldcalmoboeeiaaDoorRosOps
import Derived.Test.YtldcalmoboeeiaaDoorRosNew2
set_option linter.unusedSimpArgs false
set_option linter.unusedVariables false
namespace Go.Proofs.YtldcalmoboeeiaaDoor
open Go Go.AM Go.RowKit
attribute [local irreducible] aCode aUnr aUnS aOut
def pickK (n : Nat) (k : Int) : Int := IntKind.wrap .i64 (Int.tmod (IntKind.wrap .u64 k) (IntKind.wrap .u64 (IntKind.wrap .i64 ((n : Int) + 2))))
def wNobody : BA := ⟨#[110, 111, 98, 111, 100, 121]⟩
def wNo : BA := ⟨#[78, 111]⟩
def pickM (us : List BA) (k : Int) : BA := if pickK us.length k < us.length then us.getD (pickK us.length k).toNat ⟨#[]⟩ else if pickK us.length k = us.length then wNobody else wNo
def FPick : List AV → Option (Prop × AV) := fun al => match al with
  | [.d (.sl es), .d (.v (.int .i64 k))] => some (es = strsD (unSS es) ∧ es.length ≤ 1000, mkS (pickM (unSS es) k))
  | _ => none
theorem rPick (us : List BA) (k : Int) (q : AV → Prop) :
  (aCode Tryd.K [] Tryd.b19 (kRet Tryd.K Tryd.f19.results.toList q) ⟨[mkSS us, mkI .i64 k] ++ List.replicate (Tryd.f19.ntmps - 2) .jk, []⟩) = (
  ((List.length (strsD us)) ≤ LIM) →
  (((IntKind.wrap .u64 (IntKind.wrap .i64 (((List.length (strsD us)) : Int) + (2 : Int)))) = (0 : Int)) → False) ∧ (
   ((List.length (strsD us)) ≤ LIM) →
   bcase (decide ((IntKind.wrap .i64 (Int.tmod (IntKind.wrap .u64 k) (IntKind.wrap .u64 (IntKind.wrap .i64 (((List.length (strsD us)) : Int) + (2 : Int)))))) < ((List.length (strsD us)) : Int))) (
    (((0 : Int) ≤ (IntKind.wrap .i64 (Int.tmod (IntKind.wrap .u64 k) (IntKind.wrap .u64 (IntKind.wrap .i64 (((List.length (strsD us)) : Int) + (2 : Int))))))) ∧ ((IntKind.wrap .i64 (Int.tmod (IntKind.wrap .u64 k) (IntKind.wrap .u64 (IntKind.wrap .i64 (((List.length (strsD us)) : Int) + (2 : Int)))))) < ((List.length (strsD us)) : Int))) ∧
    ((List.length (List.getD (strsD us) (Int.toNat (IntKind.wrap .i64 (Int.tmod (IntKind.wrap .u64 k) (IntKind.wrap .u64 (IntKind.wrap .i64 (((List.length (strsD us)) : Int) + (2 : Int))))))) [])) = 1) ∧
    ((1 : Nat) ≤ (List.length (List.getD (strsD us) (Int.toNat (IntKind.wrap .i64 (Int.tmod (IntKind.wrap .u64 k) (IntKind.wrap .u64 (IntKind.wrap .i64 (((List.length (strsD us)) : Int) + (2 : Int))))))) []))) ∧
    ((List.getD (List.getD (strsD us) (Int.toNat (IntKind.wrap .i64 (Int.tmod (IntKind.wrap .u64 k) (IntKind.wrap .u64 (IntKind.wrap .i64 (((List.length (strsD us)) : Int) + (2 : Int))))))) []) (0 : Nat) d0) = (D.v (.string (strD (List.getD (List.getD (strsD us) (Int.toNat (IntKind.wrap .i64 (Int.tmod (IntKind.wrap .u64 k) (IntKind.wrap .u64 (IntKind.wrap .i64 (((List.length (strsD us)) : Int) + (2 : Int))))))) []) (0 : Nat) d0))))) ∧
    q (mkS (strD (List.getD (List.getD (strsD us) (Int.toNat (IntKind.wrap .i64 (Int.tmod (IntKind.wrap .u64 k) (IntKind.wrap .u64 (IntKind.wrap .i64 (((List.length (strsD us)) : Int) + (2 : Int))))))) []) (0 : Nat) d0)))) (
    ((List.length (strsD us)) ≤ LIM) →
    bcase ((IntKind.wrap .i64 (Int.tmod (IntKind.wrap .u64 k) (IntKind.wrap .u64 (IntKind.wrap .i64 (((List.length (strsD us)) : Int) + (2 : Int)))))) == ((List.length (strsD us)) : Int)) (
     q (mkS wNobody)) (
     q (mkS wNo))))) := by kernel_rfl
def kindM (k : Int) : Int := IntKind.wrap .i64 (Int.tmod (IntKind.wrap .u64 k) 3)
def FKind : List AV → Option (Prop × AV) := fun al => match al with
  | [.ag [.d (.v (.int .i64 k)), .d (.v (.int .i64 a)), .d (.v (.int .i64 b)), .d (.v (.int .i64 c)), .d (.v (.string x))]] => some (True, mkI .i64 (kindM k))
  | _ => none
theorem rKind (k a b c : Int) (x : BA) (q : AV → Prop) :
  (aCode Tryd.K [] Tryd.b44 (kRet Tryd.K Tryd.f44.results.toList q) ⟨[.ag [mkI .i64 k, mkI .i64 a, mkI .i64 b, mkI .i64 c, mkS x]] ++ List.replicate (Tryd.f44.ntmps - 1) .jk, []⟩) = (
  (((3 : Int) = (0 : Int)) → False) ∧
  q (mkI .i64 (IntKind.wrap .i64 (Int.tmod (IntKind.wrap .u64 k) (3 : Int))))) := by kernel_rfl
noncomputable abbrev GDs : List (FuncId × En) := [(19, .det FPick), (44, .det FKind), (21, .ref (frameX ENameO)), (20, .ref (frameX EActO)), (22, .ref (frameX ERemO))]
theorem rDoes (us : List BA) (sd : Sds) (nm : Nms) (vs : Vss) (ul : List BA) (k a b c : Int) (x : BA) (q : AV → List Ob → Prop) :
  (aCode Tryd.K GDs Tryd.b16 (kRetF Tryd.K Tryd.f16.results.toList q) ⟨[.rf 0 0, mkSS ul, .ag [mkI .i64 k, mkI .i64 a, mkI .i64 b, mkI .i64 c, mkS x]] ++ List.replicate (Tryd.f16.ntmps - 3) .jk, bkO us sd nm vs⟩) = (
  (((strsD ul) = (strsD (unSS (strsD ul)))) ∧ ((List.length (strsD ul)) ≤ (1000 : Nat))) ∧
  (Nat.le (ByteArray.size (pickM (unSS (strsD ul)) a)) LIM) ∧
  (((strsD ul) = (strsD (unSS (strsD ul)))) ∧ ((List.length (strsD ul)) ≤ (1000 : Nat))) ∧
  (Nat.le (ByteArray.size (pickM (unSS (strsD ul)) b)) LIM) ∧
  True ∧
  bcase ((kindM k) == (0 : Int)) (
   ∃ (us_1 : List BA),
   ∃ (sd_1 : Sds),
   ∃ (nm_1 : Nms),
   ∃ (vs_1 : Vss),
   ∃ (u : ByteArray),
   ∃ (c_1 : ByteArray),
   ∃ (x_1 : ByteArray),
   ([AV.rf 0 0, mkS (pickM (unSS (strsD ul)) a), mkS (pickM (unSS (strsD ul)) b), mkS x] = [AV.rf 0 0, mkS u, mkS c_1, mkS x_1]) ∧
   ([Ob.box [AV.d (.sl (strsD us)), AV.mp (0 + 1), AV.mp ((0 + 1) + 1), AV.mp (((0 + 1) + 1) + 1)], Ob.map (KK.ystrs 2) (sdE sd), Ob.map (KK.ystrs 2) (nmE nm), Ob.map KK.ystr (vsE vs), Ob.gh [AV.rf 0 0, AV.mp (0 + 1), AV.mp ((0 + 1) + 1), AV.mp (((0 + 1) + 1) + 1)]] = [Ob.box [mkSS us_1, AV.mp 1, AV.mp 2, AV.mp 3], Ob.map (KK.ystrs 2) (sdE sd_1), Ob.map (KK.ystrs 2) (nmE nm_1), Ob.map KK.ystr (vsE vs_1), Ob.gh [AV.rf 0 0, AV.mp 1, AV.mp 2, AV.mp 3]]) ∧ (
    ∀ (r : Out),
    ((nameO us_1 sd_1 nm_1 vs_1 u c_1 x_1) = r) →
    ((Option.some (Ob.gh [AV.rf 0 0, AV.mp 1, AV.mp 2, AV.mp 3])) = (Option.some (Ob.gh [AV.rf 0 0, AV.mp (0 + 1), AV.mp ((0 + 1) + 1), AV.mp (((0 + 1) + 1) + 1)]))) ∧
    q (AV.tp [AV.ag [AV.d (.sl (strsD (Out.p r))), AV.d (.sl (tdD (Out.t r)))], mkI .i64 (Out.e r)]) [Ob.box [AV.d (.sl (strsD us_1)), AV.mp (if 1 < 4 then 1 else 8 + (1 - 4)), AV.mp (if 2 < 4 then 2 else 8 + (2 - 4)), AV.mp (if 3 < 4 then 3 else 8 + (3 - 4))], Ob.map (KK.ystrs 2) (sdE (Out.sd r)), Ob.map (KK.ystrs 2) (nmE (Out.nm r)), Ob.map KK.ystr (vsE (Out.vs r)), Ob.gh [AV.rf 0 0, AV.mp 1, AV.mp 2, AV.mp 3], Ob.box [mkI .i64 k, mkI .i64 a, mkI .i64 b, mkI .i64 c, mkS x], Ob.box [AV.d (.sl (strsD (Out.p r))), AV.d (.sl (tdD (Out.t r)))], Ob.gone, Ob.gone])) (
   bcase ((kindM k) == (1 : Int)) (
    (((4 : Int) = (0 : Int)) → False) ∧ (
     ∃ (us_1 : List BA),
     ∃ (sd_1 : Sds),
     ∃ (nm_1 : Nms),
     ∃ (vs_1 : Vss),
     ∃ (u : ByteArray),
     ∃ (c_1 : ByteArray),
     ∃ (act : Int),
     ([AV.rf 0 0, mkS (pickM (unSS (strsD ul)) a), mkS (pickM (unSS (strsD ul)) b), mkI .i64 (IntKind.wrap .i64 ((1 : Int) + (IntKind.wrap .i64 (Int.tmod (IntKind.wrap .u64 c) (4 : Int)))))] = [AV.rf 0 0, mkS u, mkS c_1, mkI .i64 act]) ∧
     ([Ob.box [AV.d (.sl (strsD us)), AV.mp (0 + 1), AV.mp ((0 + 1) + 1), AV.mp (((0 + 1) + 1) + 1)], Ob.map (KK.ystrs 2) (sdE sd), Ob.map (KK.ystrs 2) (nmE nm), Ob.map KK.ystr (vsE vs), Ob.gh [AV.rf 0 0, AV.mp (0 + 1), AV.mp ((0 + 1) + 1), AV.mp (((0 + 1) + 1) + 1)]] = [Ob.box [mkSS us_1, AV.mp 1, AV.mp 2, AV.mp 3], Ob.map (KK.ystrs 2) (sdE sd_1), Ob.map (KK.ystrs 2) (nmE nm_1), Ob.map KK.ystr (vsE vs_1), Ob.gh [AV.rf 0 0, AV.mp 1, AV.mp 2, AV.mp 3]]) ∧ (
      ∀ (r : Out),
      ((actO us_1 sd_1 nm_1 vs_1 u c_1 act) = r) →
      ((Option.some (Ob.gh [AV.rf 0 0, AV.mp 1, AV.mp 2, AV.mp 3])) = (Option.some (Ob.gh [AV.rf 0 0, AV.mp (0 + 1), AV.mp ((0 + 1) + 1), AV.mp (((0 + 1) + 1) + 1)]))) ∧
      q (AV.tp [AV.ag [AV.d (.sl (strsD (Out.p r))), AV.d (.sl (tdD (Out.t r)))], mkI .i64 (Out.e r)]) [Ob.box [AV.d (.sl (strsD us_1)), AV.mp (if 1 < 4 then 1 else 8 + (1 - 4)), AV.mp (if 2 < 4 then 2 else 8 + (2 - 4)), AV.mp (if 3 < 4 then 3 else 8 + (3 - 4))], Ob.map (KK.ystrs 2) (sdE (Out.sd r)), Ob.map (KK.ystrs 2) (nmE (Out.nm r)), Ob.map KK.ystr (vsE (Out.vs r)), Ob.gh [AV.rf 0 0, AV.mp 1, AV.mp 2, AV.mp 3], Ob.box [mkI .i64 k, mkI .i64 a, mkI .i64 b, mkI .i64 c, mkS x], Ob.box [AV.d (.sl (strsD (Out.p r))), AV.d (.sl (tdD (Out.t r)))], Ob.gone, Ob.gone]))) (
    ∃ (us_1 : List BA),
    ∃ (sd_1 : Sds),
    ∃ (nm_1 : Nms),
    ∃ (vs_1 : Vss),
    ∃ (u : ByteArray),
    ∃ (c_1 : ByteArray),
    ([AV.rf 0 0, mkS (pickM (unSS (strsD ul)) a), mkS (pickM (unSS (strsD ul)) b)] = [AV.rf 0 0, mkS u, mkS c_1]) ∧
    ([Ob.box [AV.d (.sl (strsD us)), AV.mp (0 + 1), AV.mp ((0 + 1) + 1), AV.mp (((0 + 1) + 1) + 1)], Ob.map (KK.ystrs 2) (sdE sd), Ob.map (KK.ystrs 2) (nmE nm), Ob.map KK.ystr (vsE vs), Ob.gh [AV.rf 0 0, AV.mp (0 + 1), AV.mp ((0 + 1) + 1), AV.mp (((0 + 1) + 1) + 1)]] = [Ob.box [mkSS us_1, AV.mp 1, AV.mp 2, AV.mp 3], Ob.map (KK.ystrs 2) (sdE sd_1), Ob.map (KK.ystrs 2) (nmE nm_1), Ob.map KK.ystr (vsE vs_1), Ob.gh [AV.rf 0 0, AV.mp 1, AV.mp 2, AV.mp 3]]) ∧ (
     ∀ (r : Out),
     ((remO us_1 sd_1 nm_1 vs_1 u c_1) = r) →
     ((Option.some (Ob.gh [AV.rf 0 0, AV.mp 1, AV.mp 2, AV.mp 3])) = (Option.some (Ob.gh [AV.rf 0 0, AV.mp (0 + 1), AV.mp ((0 + 1) + 1), AV.mp (((0 + 1) + 1) + 1)]))) ∧
     q (AV.tp [AV.ag [AV.d (.sl (strsD (Out.p r))), AV.d (.sl (tdD (Out.t r)))], mkI .i64 (Out.e r)]) [Ob.box [AV.d (.sl (strsD us_1)), AV.mp (if 1 < 4 then 1 else 8 + (1 - 4)), AV.mp (if 2 < 4 then 2 else 8 + (2 - 4)), AV.mp (if 3 < 4 then 3 else 8 + (3 - 4))], Ob.map (KK.ystrs 2) (sdE (Out.sd r)), Ob.map (KK.ystrs 2) (nmE (Out.nm r)), Ob.map KK.ystr (vsE (Out.vs r)), Ob.gh [AV.rf 0 0, AV.mp 1, AV.mp 2, AV.mp 3], Ob.box [mkI .i64 k, mkI .i64 a, mkI .i64 b, mkI .i64 c, mkS x], Ob.box [AV.d (.sl (strsD (Out.p r))), AV.d (.sl (tdD (Out.t r)))], Ob.gone, Ob.gone])))) := by kernel_rfl
noncomputable abbrev GB8 : List (FuncId × En) := [(41, .ref (frameX ENew8))]
theorem rBeg8a (q : Kont) :
  (aCode Tryd.K GB8 (piece [[0], [1,0]] Tryd.b13) q ⟨[mkI .i64 8] ++ List.replicate (Tryd.f13.ntmps - 1) .jk, [.gh []]⟩) = (
  (((0 : Int) ≤ (8 : Int)) ∧ ((8 : Int) ≤ ((8 : Nat) : Int))) ∧
  q AX.nor ⟨[mkI .i64 (8 : Int), AV.jk, AV.d (D.v (.pointer Option.none)), AV.nl, AV.vw 1 (Int.toNat (8 : Int)), AV.vw 1 8, mkI .i64 (8 : Int), AV.vw 1 (Int.toNat (8 : Int)), AV.jk, AV.jk, AV.jk], [Ob.gh [], Ob.row 1 [[D.v (.string (⟨#[(97 : UInt8), (110 : UInt8), (110 : UInt8)]⟩ : ByteArray))], [D.v (.string (⟨#[(98 : UInt8), (111 : UInt8), (98 : UInt8)]⟩ : ByteArray))], [D.v (.string (⟨#[(99 : UInt8), (121 : UInt8)]⟩ : ByteArray))], [D.v (.string (⟨#[(100 : UInt8), (101 : UInt8), (101 : UInt8)]⟩ : ByteArray))], [D.v (.string (⟨#[(101 : UInt8), (118 : UInt8), (101 : UInt8)]⟩ : ByteArray))], [D.v (.string (⟨#[(102 : UInt8), (108 : UInt8), (111 : UInt8)]⟩ : ByteArray))], [D.v (.string (⟨#[(103 : UInt8), (117 : UInt8), (115 : UInt8)]⟩ : ByteArray))], [D.v (.string (⟨#[(104 : UInt8), (97 : UInt8), (108 : UInt8)]⟩ : ByteArray))]]]⟩) := by kernel_rfl
def stB8 : S := ⟨[mkI .i64 8, .jk, .d (.v (.pointer none)), .nl, mkSS u8] ++ jks 6, [.gh []]⟩
theorem rBeg8b (q : AV → List Ob → Prop) :
  (aCode Tryd.K GB8 (cAt [1,1] Tryd.b13) (kRetF Tryd.K Tryd.f13.results.toList q) stB8) = (
  ([AV.d (.sl (strsD u8))] = [mkSS u8]) ∧
  ([Ob.gh []] = [Ob.gh []]) ∧
  ((Option.some (Ob.gh [])) = (Option.some (Ob.gh []))) ∧
  q (AV.tp [AV.rf (if 12 < 0 then 0 else 2 + (12 - 0)) 0, AV.d (.sl (strsD u8))]) [Ob.gh [], Ob.gone, Ob.gone, Ob.gone, Ob.gone, Ob.gone, Ob.gone, Ob.gone, Ob.gone, Ob.gone, Ob.gone, Ob.map (KK.ystrs 2) [], Ob.map (KK.ystrs 2) [], Ob.map KK.ystr [(Key.s (⟨#[(97 : UInt8), (110 : UInt8), (110 : UInt8)]⟩ : ByteArray), mkI .i64 (1 : Int)), (Key.s (⟨#[(98 : UInt8), (111 : UInt8), (98 : UInt8)]⟩ : ByteArray), mkI .i64 (1 : Int)), (Key.s (⟨#[(99 : UInt8), (121 : UInt8)]⟩ : ByteArray), mkI .i64 (1 : Int)), (Key.s (⟨#[(100 : UInt8), (101 : UInt8), (101 : UInt8)]⟩ : ByteArray), mkI .i64 (1 : Int)), (Key.s (⟨#[(101 : UInt8), (118 : UInt8), (101 : UInt8)]⟩ : ByteArray), mkI .i64 (1 : Int)), (Key.s (⟨#[(102 : UInt8), (108 : UInt8), (111 : UInt8)]⟩ : ByteArray), mkI .i64 (1 : Int)), (Key.s (⟨#[(103 : UInt8), (117 : UInt8), (115 : UInt8)]⟩ : ByteArray), mkI .i64 (1 : Int)), (Key.s (⟨#[(104 : UInt8), (97 : UInt8), (108 : UInt8)]⟩ : ByteArray), mkI .i64 (1 : Int))], Ob.box [AV.d (.sl (strsD u8)), AV.mp (if (1 + 8) < 0 then 0 else 2 + ((1 + 8) - 0)), AV.mp (if (1 + 9) < 0 then 0 else 2 + ((1 + 9) - 0)), AV.mp (if (1 + 10) < 0 then 0 else 2 + ((1 + 10) - 0))]]) := by kernel_rfl
theorem pickK_rng {n : Nat} (h : n ≤ 1000) (k : Int) : 0 ≤ pickK n k ∧ pickK n k ≤ (n : Int) + 1 := by
  unfold pickK
  have e1 : IntKind.wrap .i64 ((n : Int) + 2) = (n : Int) + 2 := IntWalk.i64_in _ (by omega)
  have e2 : IntKind.wrap .u64 ((n : Int) + 2) = (n : Int) + 2 := IntWalk.u64_in _ (by omega)
  rw [e1, e2]
  have h0 : 0 ≤ IntKind.wrap .u64 k := by rw [IntKind.wrap_u64]; omega
  generalize IntKind.wrap .u64 k = m at h0
  have h1 := Int.tmod_nonneg ((n : Int) + 2) h0
  have h2 := Int.tmod_lt_of_pos m (b := (n : Int) + 2) (by omega)
  rw [IntWalk.i64_in _ (by omega)]
  omega
theorem cPick : PSound Tryd.prog 19 (detE FPick) := by
  refine det_fn (c := Tryd.b19) mixed Tryd.K_ok gsound_nil Tryd.func19 rfl rfl Tryd.call19 fun al p r q hF hp hq => ?_
  unfold FPick at hF; split at hF <;> cases hF
  rename_i es k
  obtain ⟨h1, h2⟩ := hp
  generalize unSS es = us at h1 hq
  subst h1
  rw [strsD_length] at h2
  have hr := pickK_rng h2 k
  refine cast (rPick us k q).symm fun _ => ?_
  have e : IntKind.wrap .i64 (Int.tmod (IntKind.wrap .u64 k) (IntKind.wrap .u64 (IntKind.wrap .i64 ((us.length : Int) + 2)))) = pickK us.length k := rfl
  refine ⟨fun h0 => ?_, fun _ => ?_⟩
  · have e1 : IntKind.wrap .i64 ((us.length : Int) + 2) = (us.length : Int) + 2 := IntWalk.i64_in _ (by omega)
    have e2 : IntKind.wrap .u64 ((us.length : Int) + 2) = (us.length : Int) + 2 := IntWalk.u64_in _ (by omega)
    rw [strsD_length, e1, e2] at h0
    omega
  · simp only [strsD_length, e]
    unfold pickM at hq
    refine bcase_dec (fun hlt => ?_) (fun hge _ => bcase_mk (fun h3 => ?_) (fun h3 => ?_))
    · rw [if_pos hlt] at hq
      have hn : (pickK us.length k).toNat < us.length := by omega
      have hg := strsD_getD us _ hn
      simp only [hg]
      exact ⟨⟨by omega, by omega⟩, rfl, Nat.le_refl _, rfl, hq⟩
    · rw [if_neg hge, if_pos (by simpa using h3)] at hq; exact hq
    · rw [if_neg hge, if_neg (by simpa using h3)] at hq; exact hq
theorem cKind : PSound Tryd.prog 44 (detE FKind) := by
  refine det_fn (c := Tryd.b44) mixed Tryd.K_ok gsound_nil Tryd.func44 rfl rfl Tryd.call44 fun al p r q hF hp hq => ?_
  unfold FKind at hF; split at hF <;> cases hF
  exact cast (rKind _ _ _ _ _ q).symm ⟨by decide, hq⟩
/-- A step. -/
structure Op where
  k : Int
  a : Int
  b : Int
  c : Int
  x : BA
def actK (c : Int) : Int := IntKind.wrap .i64 (1 + IntKind.wrap .i64 (Int.tmod (IntKind.wrap .u64 c) 4))
def doesO (us : List BA) (sd : Sds) (nm : Nms) (vs : Vss) (ul : List BA) (k a b c : Int) (x : BA) : Out :=
  if kindM k = 0 then nameO us sd nm vs (pickM ul a) (pickM ul b) x else if kindM k = 1 then actO us sd nm vs (pickM ul a) (pickM ul b) (actK c) else remO us sd nm vs (pickM ul a) (pickM ul b)
def EDoes : REnt := fun al o q => ∃ us sd nm vs ul k a b c x, al = [.rf 0 0, mkSS ul, .ag [mkI .i64 k, mkI .i64 a, mkI .i64 b, mkI .i64 c, mkS x]] ∧ o = bkO us sd nm vs ∧ (ul.length ≤ 1000 ∧ ∀ s ∈ ul, s.size ≤ 1000) ∧ ∀ r, doesO us sd nm vs ul k a b c x = r → q (.tp [.ag [.d (.sl (strsD r.p)), .d (.sl (tdD r.t))], mkI .i64 r.e]) (bkO us r.sd r.nm r.vs)
theorem pick_size {ul : List BA} (h : ∀ s ∈ ul, s.size ≤ 1000) (k : Int) : (pickM ul k).size ≤ LIM := by
  unfold pickM
  split
  · rcases Nat.lt_or_ge (pickK ul.length k).toNat ul.length with h1 | h1
    · rw [List.getD_eq_getElem?_getD, List.getElem?_eq_getElem h1]
      exact Nat.le_trans (h _ (List.getElem_mem h1)) (by decide)
    · rw [List.getD_eq_getElem?_getD, List.getElem?_eq_none h1]; decide
  · split <;> decide
theorem gds_ok : GSound Tryd.prog GDs := gsound_det cPick (gsound_det cKind (gsound_ref (RSound.frameX cNameO) (gsound_ref (RSound.frameX cActO) (gsound_ref (RSound.frameX cRemO) gsound_nil))))
theorem cDoes : RSound Tryd.prog 16 EDoes := by
  refine ref_gen trimN trimN_ok (code_bsound (c := Tryd.b16) mixed Tryd.K_ok gds_ok) Tryd.K_ok Tryd.func16 rfl rfl Tryd.call16 fun al o q ⟨us, sd, nm, vs, ul, k, a, b, c, x, h1, h2, ⟨hl, hs⟩, hq⟩ => ?_
  subst h1 h2
  replace hq := hq _ rfl
  have fin : ∀ r, doesO us sd nm vs ul k a b c x = r → ∀ o, trimN q (.tp [.ag [.d (.sl (strsD r.p)), .d (.sl (tdD r.t))], mkI .i64 r.e]) (bkO us r.sd r.nm r.vs ++ o) := fun r hr o => by
    rw [hr] at hq
    exact bkN_trim (LeN.refl _) (outV_fits r) hq
  have es : unSS (strsD ul) = ul := unSS_strsD ul
  refine cast (rDoes us sd nm vs ul k a b c x (trimN q)).symm ?_
  rw [es, strsD_length]
  refine ⟨⟨rfl, hl⟩, pick_size hs a, ⟨rfl, hl⟩, pick_size hs b, trivial, bcase_mk (fun h => ⟨us, sd, nm, vs, _, _, _, rfl, rfl, fun r hr => ⟨rfl, fin r ?_ _⟩⟩) (fun h => bcase_mk (fun h2 => ⟨by decide, us, sd, nm, vs, _, _, _, rfl, rfl, fun r hr => ⟨rfl, fin r ?_ _⟩⟩) (fun h2 => ⟨us, sd, nm, vs, _, _, rfl, rfl, fun r hr => ⟨rfl, fin r ?_ _⟩⟩))⟩
  · rw [← hr]; exact if_pos (by simpa using h)
  · rw [← hr]; unfold doesO; rw [if_neg (by simpa using h), if_pos (by simpa using h2)]; rfl
  · rw [← hr]; unfold doesO; rw [if_neg (by simpa using h), if_neg (by simpa using h2)]
/-- A book behind begin. -/
def bkL (us : List BA) (sd : Sds) (nm : Nms) (vs : Vss) : List Ob := List.replicate 10 .gone ++ [.map (.ystrs 2) (sdE sd), .map (.ystrs 2) (nmE nm), .map .ystr (vsE vs), .box [mkSS us, .mp 11, .mp 12, .mp 13]]
theorem code_beg : Tryd.b13 = .seq (cAt [0] Tryd.b13) (.seq (cAt [1,0] Tryd.b13) (cAt [1,1] Tryd.b13)) := by kernel_rfl
def EBegin5 : REnt := fun al o q => al = [mkI .i64 5] ∧ o = [.gh []] ∧ q (.tp [.rf 14 0, mkSS u5]) ([.gh []] ++ bkL u5 [] [] (v0 u5))
theorem gb8x_ok : GSound Tryd.prog GB8 := gsound_ref (RSound.frameX cNew8) gsound_nil
abbrev FB8 (q : Kont) : S → Prop := fun s' => ∃ rs s1, (sealAll rs s').le s1 ∧ aCode Tryd.K GB8 (cAt [1,1] Tryd.b13) q s1
theorem beg8_bs : BSound Tryd.prog Tryd.b13 (fun q s => aCode Tryd.K GB8 (cAt [0] Tryd.b13) (kSeq (aCode Tryd.K GB8 (cAt [1,0] Tryd.b13) (kSeq (FB8 q) q)) q) s) := by
  rw [code_beg]
  exact seq_bsound0 (code_bsound mixed Tryd.K_ok gb8x_ok _) (seq_bsound (code_bsound mixed Tryd.K_ok gb8x_ok _) (code_bsound mixed Tryd.K_ok gb8x_ok _))
def EBegin8 : REnt := fun al o q => al = [mkI .i64 8] ∧ o = [.gh []] ∧ q (.tp [.rf 14 0, mkSS u8]) ([.gh []] ++ bkL u8 [] [] (v0 u8))
theorem cBegin8 : RSound Tryd.prog 13 EBegin8 := by
  refine ref_gen trimN trimN_ok beg8_bs Tryd.K_ok Tryd.func13 rfl rfl Tryd.call13 fun al o q ⟨h1, h2, hq⟩ => ?_
  subst h1 h2
  have fin : aCode Tryd.K GB8 (cAt [1,1] Tryd.b13) (kRetF Tryd.K Tryd.f13.results.toList (trimN q)) stB8 :=
    cast (rBeg8b (trimN q)).symm ⟨rfl, rfl, rfl, _, _, LeN.refl _, by simp [leO, bkL, sdE, nmE, encM, vsE, v0, u8, mkSS, strsD, sK, nAnn, nBob, nCy, nDee, nEve, nFlo, nGus, nHal], by rfl, hq⟩
  generalize kRetF Tryd.K Tryd.f13.results.toList (trimN q) = kq at fin ⊢
  refine code_pair (cast (rBeg8a (kSeq (FB8 kq) kq)).symm ⟨by decide, [1], stB8, ?_, fin⟩)
  simp [S.le, sealAll, S.sealR, stB8, leL, leA, leO, jks, subL, AV.sub, Ob.subO, S.fits, fitsL, AV.fits, Ob.fits, mkSS, mkS, mkI, strsD, u8, nAnn, nBob, nCy, nDee, nEve, nFlo, nGus, nHal]
end Go.Proofs.YtldcalmoboeeiaaDoor

namespace Go.Proofs.YtldcalmoboeeiaaDoor
open Go Go.AM Go.RowKit
attribute [local irreducible] aCode aUnr aUnS aOut
noncomputable abbrev GU : List (FuncId × En) := [(56, .ref cloneF)]
theorem rUsers (us : List BA) (sd : Sds) (nm : Nms) (vs : Vss) (q : AV → List Ob → Prop) :
  (aCode Tryd.K GU Tryd.b26 (kRetF Tryd.K Tryd.f26.results.toList q) ⟨[.rf 0 0] ++ List.replicate (Tryd.f26.ntmps - 1) .jk, bkO us sd nm vs⟩) = (
  (((strsD us) = (strsD (unSS (strsD us)))) ∧ ((((strsD us) = []) → False) ∧ ((List.length (strsD us)) ≤ (65536 : Nat)))) ∧
  q (AV.vw 6 (List.length (strsD us))) [Ob.box [mkSS us, AV.mp 1, AV.mp 2, AV.mp 3], Ob.map (KK.ystrs 2) (sdE sd), Ob.map (KK.ystrs 2) (nmE nm), Ob.map KK.ystr (vsE vs), Ob.gh [AV.rf 0 0, AV.mp 1, AV.mp 2, AV.mp 3], Ob.gone, Ob.row 1 (strsD us)]) := by kernel_rfl
def EUsers : REnt := fun al o q => ∃ us sd nm vs, al = [.rf 0 0] ∧ o = bkO us sd nm vs ∧ (us ≠ [] ∧ us.length ≤ 65536) ∧ q (mkSS us) (bkO us sd nm vs)
theorem cUsers : RSound Tryd.prog 26 EUsers := by
  refine ref_gen trimM trimM_ok (code_bsound (c := Tryd.b26) mixed Tryd.K_ok (gsound_ref (cloneF_sound cClone) gsound_nil)) Tryd.K_ok Tryd.func26 rfl rfl Tryd.call26 fun al o q ⟨us, sd, nm, vs, h1, h2, ⟨hne, hl⟩, hq⟩ => ?_
  subst h1 h2
  refine cast (rUsers us sd nm vs (trimM q)).symm ⟨⟨by rw [unSS_strsD], fun h => hne (by simpa [strsD] using h), by rw [strsD_length]; exact hl⟩, [6], ?_⟩
  have e : sealAll [6] ⟨[.vw 6 (strsD us).length], bkO us sd nm vs ++ [.gone, .row 1 (strsD us)]⟩ = ⟨[.d (.sl ((strsD us).take (strsD us).length))], bkO us sd nm vs ++ [.gone, .gone]⟩ := rfl
  rw [show ([Ob.box [mkSS us, AV.mp 1, AV.mp 2, AV.mp 3], Ob.map (KK.ystrs 2) (sdE sd), Ob.map (KK.ystrs 2) (nmE nm), Ob.map KK.ystr (vsE vs), Ob.gh [AV.rf 0 0, AV.mp 1, AV.mp 2, AV.mp 3], Ob.gone, Ob.row 1 (strsD us)] : List Ob) = bkO us sd nm vs ++ [.gone, .row 1 (strsD us)] from rfl, e]
  show trimN q _ _
  rw [List.take_length]
  exact bkN_trim (LeN.refl _) rfl hq
noncomputable abbrev GLv : List (FuncId × En) := [(41, .ref (frameX ENew2)), (20, .ref (frameX EActO)), (15, .ref (frameX EItems)), (26, .ref (frameX EUsers))]
theorem rLives (q : AV → List Ob → Prop) :
  (aCode Tryd.K GLv Tryd.b12 (kRetF Tryd.K Tryd.f12.results.toList q) ⟨List.replicate (Tryd.f12.ntmps) .jk, [.gh []]⟩) = (
  ([AV.vw 0 2] = [AV.vw 0 2]) ∧
  ([Ob.row 1 [[D.v (.string (⟨#[(98 : UInt8), (111 : UInt8), (98 : UInt8)]⟩ : ByteArray))], [D.v (.string (⟨#[(97 : UInt8), (110 : UInt8), (110 : UInt8)]⟩ : ByteArray))]], Ob.gh []] = [Ob.row 1 (strsD u2), Ob.gh []]) ∧
  ((Option.some (Ob.gh [])) = (Option.some (Ob.gh []))) ∧ (
   ∃ (us : List BA),
   ∃ (sd : Sds),
   ∃ (nm : Nms),
   ∃ (vs : Vss),
   ∃ (u : ByteArray),
   ∃ (c : ByteArray),
   ∃ (act : Int),
   ([AV.rf 0 0, mkS (⟨#[(97 : UInt8), (110 : UInt8), (110 : UInt8)]⟩ : ByteArray), mkS (⟨#[(98 : UInt8), (111 : UInt8), (98 : UInt8)]⟩ : ByteArray), mkI .i64 (1 : Int)] = [AV.rf 0 0, mkS u, mkS c, mkI .i64 act]) ∧
   ([Ob.box [AV.d (.sl (strsD t2)), AV.mp (0 + 1), AV.mp ((0 + 1) + 1), AV.mp (((0 + 1) + 1) + 1)], Ob.map (KK.ystrs 2) [], Ob.map (KK.ystrs 2) [], Ob.map KK.ystr [(Key.s (⟨#[(97 : UInt8), (110 : UInt8), (110 : UInt8)]⟩ : ByteArray), mkI .i64 (1 : Int)), (Key.s (⟨#[(98 : UInt8), (111 : UInt8), (98 : UInt8)]⟩ : ByteArray), mkI .i64 (1 : Int))], Ob.gh [AV.rf 0 0, AV.mp (0 + 1), AV.mp ((0 + 1) + 1), AV.mp (((0 + 1) + 1) + 1)]] = [Ob.box [mkSS us, AV.mp 1, AV.mp 2, AV.mp 3], Ob.map (KK.ystrs 2) (sdE sd), Ob.map (KK.ystrs 2) (nmE nm), Ob.map KK.ystr (vsE vs), Ob.gh [AV.rf 0 0, AV.mp 1, AV.mp 2, AV.mp 3]]) ∧ (
    ∀ (r : Out),
    ((actO us sd nm vs u c act) = r) →
    ((Option.some (Ob.gh [AV.rf 0 0, AV.mp 1, AV.mp 2, AV.mp 3])) = (Option.some (Ob.gh [AV.rf 0 0, AV.mp (0 + 1), AV.mp ((0 + 1) + 1), AV.mp (((0 + 1) + 1) + 1)]))) ∧ (
     ∃ (us_1 : List BA),
     ∃ (sd_1 : Sds),
     ∃ (nm_1 : Nms),
     ∃ (vs_1 : Vss),
     ∃ (u_1 : ByteArray),
     ([AV.rf 0 0, mkS (⟨#[(97 : UInt8), (110 : UInt8), (110 : UInt8)]⟩ : ByteArray)] = [AV.rf 0 0, mkS u_1]) ∧
     ([Ob.box [AV.d (.sl (strsD us)), AV.mp (0 + 1), AV.mp ((0 + 1) + 1), AV.mp (((0 + 1) + 1) + 1)], Ob.map (KK.ystrs 2) (sdE (Out.sd r)), Ob.map (KK.ystrs 2) (nmE (Out.nm r)), Ob.map KK.ystr (vsE (Out.vs r)), Ob.gh [AV.rf 0 0, AV.mp (0 + 1), AV.mp ((0 + 1) + 1), AV.mp (((0 + 1) + 1) + 1)]] = [Ob.box [mkSS us_1, AV.mp 1, AV.mp 2, AV.mp 3], Ob.map (KK.ystrs 2) (sdE sd_1), Ob.map (KK.ystrs 2) (nmE nm_1), Ob.map KK.ystr (vsE vs_1), Ob.gh [AV.rf 0 0, AV.mp 1, AV.mp 2, AV.mp 3]]) ∧
     ((Option.some (Ob.gh [AV.rf 0 0, AV.mp 1, AV.mp 2, AV.mp 3])) = (Option.some (Ob.gh [AV.rf 0 0, AV.mp (0 + 1), AV.mp ((0 + 1) + 1), AV.mp (((0 + 1) + 1) + 1)]))) ∧
     bcase ((Out.e r) == (0 : Int)) (
      ((List.length (strsD (Out.p r))) ≤ LIM) →
      bcase (((List.length (strsD (Out.p r))) : Int) == (1 : Int)) (
       (((0 : Int) ≤ (0 : Int)) ∧ ((0 : Int) < ((List.length (strsD (Out.p r))) : Int))) ∧
       ((List.length (List.getD (strsD (Out.p r)) (Int.toNat (0 : Int)) [])) = 1) ∧
       ((1 : Nat) ≤ (List.length (List.getD (strsD (Out.p r)) (Int.toNat (0 : Int)) []))) ∧
       ((List.getD (List.getD (strsD (Out.p r)) (Int.toNat (0 : Int)) []) (0 : Nat) d0) = (D.v (.string (strD (List.getD (List.getD (strsD (Out.p r)) (Int.toNat (0 : Int)) []) (0 : Nat) d0))))) ∧
       bcase (decide ((strD (List.getD (List.getD (strsD (Out.p r)) (Int.toNat (0 : Int)) []) (0 : Nat) d0)) = (⟨#[(97 : UInt8), (110 : UInt8), (110 : UInt8)]⟩ : ByteArray))) (
        ((List.length (tdD (Out.t r))) ≤ LIM) →
        bcase (((List.length (tdD (Out.t r))) : Int) == (1 : Int)) (
         (((0 : Int) ≤ (0 : Int)) ∧ ((0 : Int) < ((List.length (tdD (Out.t r))) : Int))) ∧
         ((List.length (List.getD (tdD (Out.t r)) (Int.toNat (0 : Int)) [])) = 3) ∧
         ((1 : Nat) ≤ (List.length (List.drop (0 : Nat) (List.getD (tdD (Out.t r)) (Int.toNat (0 : Int)) [])))) ∧
         ((List.getD (List.drop (0 : Nat) (List.getD (tdD (Out.t r)) (Int.toNat (0 : Int)) [])) (0 : Nat) d0) = (D.v (.string (strD (List.getD (List.drop (0 : Nat) (List.getD (tdD (Out.t r)) (Int.toNat (0 : Int)) [])) (0 : Nat) d0))))) ∧
         bcase (decide ((strD (List.getD (List.drop (0 : Nat) (List.getD (tdD (Out.t r)) (Int.toNat (0 : Int)) [])) (0 : Nat) d0)) = (⟨#[(98 : UInt8), (111 : UInt8), (98 : UInt8)]⟩ : ByteArray))) (
          bcase ((if (memB u_1 us_1) = true then (0 : Int) else (7 : Int)) == (0 : Int)) (
           bcase ((if (memB u_1 us_1) = true then verOf vs_1 u_1 else (0 : Int)) == (2 : Int)) (
            ((List.length (itsD (if (memB u_1 us_1) = true then itemsM us_1 sd_1 nm_1 u_1 else []))) ≤ LIM) →
            bcase (((List.length (itsD (if (memB u_1 us_1) = true then itemsM us_1 sd_1 nm_1 u_1 else []))) : Int) == (1 : Int)) (
             (((0 : Int) ≤ (0 : Int)) ∧ ((0 : Int) < ((List.length (itsD (if (memB u_1 us_1) = true then itemsM us_1 sd_1 nm_1 u_1 else []))) : Int))) ∧
             ((List.length (List.getD (itsD (if (memB u_1 us_1) = true then itemsM us_1 sd_1 nm_1 u_1 else [])) (Int.toNat (0 : Int)) [])) = 4) ∧
             ((1 : Nat) ≤ (List.length (List.drop (3 : Nat) (List.getD (itsD (if (memB u_1 us_1) = true then itemsM us_1 sd_1 nm_1 u_1 else [])) (Int.toNat (0 : Int)) [])))) ∧
             ((List.getD (List.drop (3 : Nat) (List.getD (itsD (if (memB u_1 us_1) = true then itemsM us_1 sd_1 nm_1 u_1 else [])) (Int.toNat (0 : Int)) [])) (0 : Nat) d0) = (D.v (.bool (boolD (List.getD (List.drop (3 : Nat) (List.getD (itsD (if (memB u_1 us_1) = true then itemsM us_1 sd_1 nm_1 u_1 else [])) (Int.toNat (0 : Int)) [])) (0 : Nat) d0))))) ∧
             bcase (boolD (List.getD (List.drop (3 : Nat) (List.getD (itsD (if (memB u_1 us_1) = true then itemsM us_1 sd_1 nm_1 u_1 else [])) (Int.toNat (0 : Int)) [])) (0 : Nat) d0)) (
              ∃ (us_2 : List BA),
              ∃ (sd_2 : Sds),
              ∃ (nm_2 : Nms),
              ∃ (vs_2 : Vss),
              ([AV.rf 0 0] = [AV.rf 0 0]) ∧
              ([Ob.box [AV.d (.sl (strsD us_1)), AV.mp (0 + 1), AV.mp ((0 + 1) + 1), AV.mp (((0 + 1) + 1) + 1)], Ob.map (KK.ystrs 2) (sdE sd_1), Ob.map (KK.ystrs 2) (nmE nm_1), Ob.map KK.ystr (vsE vs_1), Ob.gh [AV.rf 0 0, AV.mp (0 + 1), AV.mp ((0 + 1) + 1), AV.mp (((0 + 1) + 1) + 1)]] = [Ob.box [mkSS us_2, AV.mp 1, AV.mp 2, AV.mp 3], Ob.map (KK.ystrs 2) (sdE sd_2), Ob.map (KK.ystrs 2) (nmE nm_2), Ob.map KK.ystr (vsE vs_2), Ob.gh [AV.rf 0 0, AV.mp 1, AV.mp 2, AV.mp 3]]) ∧
              (((us_2 = []) → False) ∧ ((List.length us_2) ≤ (65536 : Nat))) ∧
              ((Option.some (Ob.gh [AV.rf 0 0, AV.mp 1, AV.mp 2, AV.mp 3])) = (Option.some (Ob.gh [AV.rf 0 0, AV.mp (0 + 1), AV.mp ((0 + 1) + 1), AV.mp (((0 + 1) + 1) + 1)]))) ∧ (
               ((List.length (strsD us_2)) ≤ LIM) →
               q (mkB (((List.length (strsD us_2)) : Int) == (2 : Int))) [Ob.gh [], Ob.row 1 (strsD u2), Ob.gone, Ob.gone, Ob.gone, Ob.gone, Ob.gone, Ob.gone, Ob.gone, Ob.gone, Ob.gone, Ob.gone, Ob.map (KK.ystrs 2) (sdE sd_2), Ob.map (KK.ystrs 2) (nmE nm_2), Ob.map KK.ystr (vsE vs_2), Ob.box [AV.d (.sl (strsD us_2)), AV.mp (if 1 < 4 then 12 else 22 + (1 - 4)), AV.mp (if 2 < 4 then 13 else 22 + (2 - 4)), AV.mp (if 3 < 4 then 14 else 22 + (3 - 4))], Ob.gone, Ob.gone, Ob.box [AV.d (.sl (strsD (Out.p r))), AV.d (.sl (tdD (Out.t r)))], Ob.gone, Ob.gone, Ob.gone, Ob.gone])) (
              q (mkB false) [Ob.gh [], Ob.row 1 (strsD u2), Ob.gone, Ob.gone, Ob.gone, Ob.gone, Ob.gone, Ob.gone, Ob.gone, Ob.gone, Ob.gone, Ob.gone, Ob.map (KK.ystrs 2) (sdE sd_1), Ob.map (KK.ystrs 2) (nmE nm_1), Ob.map KK.ystr (vsE vs_1), Ob.box [AV.d (.sl (strsD us_1)), AV.mp (if 1 < 4 then 12 else 20 + (1 - 4)), AV.mp (if 2 < 4 then 13 else 20 + (2 - 4)), AV.mp (if 3 < 4 then 14 else 20 + (3 - 4))], Ob.gone, Ob.gone, Ob.box [AV.d (.sl (strsD (Out.p r))), AV.d (.sl (tdD (Out.t r)))], Ob.gone, Ob.gone])) (
             q (mkB false) [Ob.gh [], Ob.row 1 (strsD u2), Ob.gone, Ob.gone, Ob.gone, Ob.gone, Ob.gone, Ob.gone, Ob.gone, Ob.gone, Ob.gone, Ob.gone, Ob.map (KK.ystrs 2) (sdE sd_1), Ob.map (KK.ystrs 2) (nmE nm_1), Ob.map KK.ystr (vsE vs_1), Ob.box [AV.d (.sl (strsD us_1)), AV.mp (if 1 < 4 then 12 else 20 + (1 - 4)), AV.mp (if 2 < 4 then 13 else 20 + (2 - 4)), AV.mp (if 3 < 4 then 14 else 20 + (3 - 4))], Ob.gone, Ob.gone, Ob.box [AV.d (.sl (strsD (Out.p r))), AV.d (.sl (tdD (Out.t r)))], Ob.gone, Ob.gone])) (
            q (mkB false) [Ob.gh [], Ob.row 1 (strsD u2), Ob.gone, Ob.gone, Ob.gone, Ob.gone, Ob.gone, Ob.gone, Ob.gone, Ob.gone, Ob.gone, Ob.gone, Ob.map (KK.ystrs 2) (sdE sd_1), Ob.map (KK.ystrs 2) (nmE nm_1), Ob.map KK.ystr (vsE vs_1), Ob.box [AV.d (.sl (strsD us_1)), AV.mp (if 1 < 4 then 12 else 20 + (1 - 4)), AV.mp (if 2 < 4 then 13 else 20 + (2 - 4)), AV.mp (if 3 < 4 then 14 else 20 + (3 - 4))], Ob.gone, Ob.gone, Ob.box [AV.d (.sl (strsD (Out.p r))), AV.d (.sl (tdD (Out.t r)))], Ob.gone, Ob.gone])) (
           q (mkB false) [Ob.gh [], Ob.row 1 (strsD u2), Ob.gone, Ob.gone, Ob.gone, Ob.gone, Ob.gone, Ob.gone, Ob.gone, Ob.gone, Ob.gone, Ob.gone, Ob.map (KK.ystrs 2) (sdE sd_1), Ob.map (KK.ystrs 2) (nmE nm_1), Ob.map KK.ystr (vsE vs_1), Ob.box [AV.d (.sl (strsD us_1)), AV.mp (if 1 < 4 then 12 else 20 + (1 - 4)), AV.mp (if 2 < 4 then 13 else 20 + (2 - 4)), AV.mp (if 3 < 4 then 14 else 20 + (3 - 4))], Ob.gone, Ob.gone, Ob.box [AV.d (.sl (strsD (Out.p r))), AV.d (.sl (tdD (Out.t r)))], Ob.gone, Ob.gone])) (
          q (mkB false) [Ob.gh [], Ob.row 1 (strsD u2), Ob.gone, Ob.gone, Ob.gone, Ob.gone, Ob.gone, Ob.gone, Ob.gone, Ob.gone, Ob.gone, Ob.gone, Ob.map (KK.ystrs 2) (sdE sd_1), Ob.map (KK.ystrs 2) (nmE nm_1), Ob.map KK.ystr (vsE vs_1), Ob.box [AV.d (.sl (strsD us_1)), AV.mp (if 1 < 4 then 12 else 20 + (1 - 4)), AV.mp (if 2 < 4 then 13 else 20 + (2 - 4)), AV.mp (if 3 < 4 then 14 else 20 + (3 - 4))], Ob.gone, Ob.gone, Ob.box [AV.d (.sl (strsD (Out.p r))), AV.d (.sl (tdD (Out.t r)))], Ob.gone, Ob.gone])) (
         q (mkB false) [Ob.gh [], Ob.row 1 (strsD u2), Ob.gone, Ob.gone, Ob.gone, Ob.gone, Ob.gone, Ob.gone, Ob.gone, Ob.gone, Ob.gone, Ob.gone, Ob.map (KK.ystrs 2) (sdE sd_1), Ob.map (KK.ystrs 2) (nmE nm_1), Ob.map KK.ystr (vsE vs_1), Ob.box [AV.d (.sl (strsD us_1)), AV.mp (if 1 < 4 then 12 else 20 + (1 - 4)), AV.mp (if 2 < 4 then 13 else 20 + (2 - 4)), AV.mp (if 3 < 4 then 14 else 20 + (3 - 4))], Ob.gone, Ob.gone, Ob.box [AV.d (.sl (strsD (Out.p r))), AV.d (.sl (tdD (Out.t r)))], Ob.gone, Ob.gone])) (
        q (mkB false) [Ob.gh [], Ob.row 1 (strsD u2), Ob.gone, Ob.gone, Ob.gone, Ob.gone, Ob.gone, Ob.gone, Ob.gone, Ob.gone, Ob.gone, Ob.gone, Ob.map (KK.ystrs 2) (sdE sd_1), Ob.map (KK.ystrs 2) (nmE nm_1), Ob.map KK.ystr (vsE vs_1), Ob.box [AV.d (.sl (strsD us_1)), AV.mp (if 1 < 4 then 12 else 20 + (1 - 4)), AV.mp (if 2 < 4 then 13 else 20 + (2 - 4)), AV.mp (if 3 < 4 then 14 else 20 + (3 - 4))], Ob.gone, Ob.gone, Ob.box [AV.d (.sl (strsD (Out.p r))), AV.d (.sl (tdD (Out.t r)))], Ob.gone, Ob.gone])) (
       q (mkB false) [Ob.gh [], Ob.row 1 (strsD u2), Ob.gone, Ob.gone, Ob.gone, Ob.gone, Ob.gone, Ob.gone, Ob.gone, Ob.gone, Ob.gone, Ob.gone, Ob.map (KK.ystrs 2) (sdE sd_1), Ob.map (KK.ystrs 2) (nmE nm_1), Ob.map KK.ystr (vsE vs_1), Ob.box [AV.d (.sl (strsD us_1)), AV.mp (if 1 < 4 then 12 else 20 + (1 - 4)), AV.mp (if 2 < 4 then 13 else 20 + (2 - 4)), AV.mp (if 3 < 4 then 14 else 20 + (3 - 4))], Ob.gone, Ob.gone, Ob.box [AV.d (.sl (strsD (Out.p r))), AV.d (.sl (tdD (Out.t r)))], Ob.gone, Ob.gone])) (
      q (mkB false) [Ob.gh [], Ob.row 1 (strsD u2), Ob.gone, Ob.gone, Ob.gone, Ob.gone, Ob.gone, Ob.gone, Ob.gone, Ob.gone, Ob.gone, Ob.gone, Ob.map (KK.ystrs 2) (sdE sd_1), Ob.map (KK.ystrs 2) (nmE nm_1), Ob.map KK.ystr (vsE vs_1), Ob.box [AV.d (.sl (strsD us_1)), AV.mp (if 1 < 4 then 12 else 20 + (1 - 4)), AV.mp (if 2 < 4 then 13 else 20 + (2 - 4)), AV.mp (if 3 < 4 then 14 else 20 + (3 - 4))], Ob.gone, Ob.gone, Ob.box [AV.d (.sl (strsD (Out.p r))), AV.d (.sl (tdD (Out.t r)))], Ob.gone, Ob.gone]))))) := by kernel_rfl
theorem glv_ok : GSound Tryd.prog GLv := gsound_ref (RSound.frameX cNew2) (gsound_ref (RSound.frameX cActO) (gsound_ref (RSound.frameX cItems) (gsound_ref (RSound.frameX cUsers) gsound_nil)))
def ELives : REnt := fun al o q => al = [] ∧ o = [.gh []] ∧ q (mkB true) [.gh []]
theorem cLives : RSound Tryd.prog 12 ELives := by
  refine ref_gen trimN trimN_ok (code_bsound (c := Tryd.b12) mixed Tryd.K_ok glv_ok) Tryd.K_ok Tryd.func12 rfl rfl Tryd.call12 fun al o q ⟨h1, h2, hq⟩ => ?_
  subst h1 h2
  have fin : ∀ o, trimN q (mkB true) ([.gh []] ++ o) := fun o => ⟨_, [.gh []], LeN.refl _, by simp [leO], by rfl, hq⟩
  refine cast (rLives (trimN q)).symm ⟨rfl, rfl, rfl, t2, [], [], v0 t2, nAnn, nBob, 1, rfl, rfl, fun r hr => ⟨rfl, t2, r.sd, r.nm, r.vs, nAnn, rfl, rfl, rfl, ?_⟩⟩
  have he : r.e = 0 := by rw [← hr]; kernel_rfl
  have hp : r.p = [nAnn] := by rw [← hr]; kernel_rfl
  have ht : r.t = [(nBob, nAnn, 1)] := by rw [← hr]; kernel_rfl
  have hv : verOf r.vs nAnn = 2 := by rw [← hr]; kernel_rfl
  have hi : itemsM t2 r.sd r.nm nAnn = [⟨nBob, ⟨#[]⟩, 0, true⟩] := by rw [← hr]; kernel_rfl
  have hm : memB nAnn t2 = true := by kernel_rfl
  simp only [he, hp, ht, hv, hi, hm, if_true]
  repeat' (first | exact fin _ | (refine bcase_mk (fun _ => ?_) (fun h => absurd h (by decide))) | exact (fun h => absurd h (by decide) : t2 = [] → False) | (intro _) | trivial | rfl | decide | (refine ⟨t2, r.sd, r.nm, r.vs, ?_⟩) | (refine And.intro ?_ ?_))
end Go.Proofs.YtldcalmoboeeiaaDoor

namespace Go.Proofs.YtldcalmoboeeiaaDoor
open Go Go.AM Go.RowKit
attribute [local irreducible] aCode aUnr aUnS aOut
def EItemsQ : REnt := fun al o q => ∃ us sd nm vs u, al = [.rf 0 0, mkS u] ∧ o = bkO us sd nm vs ∧ memB u us = true ∧ ∀ l n, itemsM us sd nm u = l → verOf vs u = n → q (.tp [.d (.sl (itsD l)), mkI .i64 n, mkI .i64 0]) (bkO us sd nm vs)
theorem cItemsQ : RSound Tryd.prog 15 EItemsQ := cItems.mono fun al o q ⟨us, sd, nm, vs, u, h1, h2, hm, h⟩ => ⟨us, sd, nm, vs, u, h1, h2, by simp only [hm, if_true]; exact h _ _ rfl rfl⟩
def ESideQ : REnt := fun al o q => ∃ us sd nm vs u c, al = [.rf 0 0, mkS u, mkS c] ∧ o = bkO us sd nm vs ∧ ∀ s, sideOf sd u c = s → q (.ag [mkI .i64 s.sub, mkB s.a, mkB s.w]) (bkO us sd nm vs)
theorem cSideQ : RSound Tryd.prog 23 ESideQ := cSide.mono fun al o q ⟨us, sd, nm, vs, u, c, h1, h2, h⟩ => ⟨us, sd, nm, vs, u, c, h1, h2, h _ rfl⟩
/-- What a law owns behind begin. -/
def lawO (us : List BA) (sd : Sds) (nm : Nms) (vs : Vss) : List Ob := List.replicate 14 .gone ++ [.map (.ystrs 2) (sdE sd), .map (.ystrs 2) (nmE nm), .map .ystr (vsE vs), .box [mkSS us, .mp 14, .mp 15, .mp 16]]
def inB (c : BA) (l : List BA) : Bool := l.any fun x => decide (x = c)
end Go.Proofs.YtldcalmoboeeiaaDoor
