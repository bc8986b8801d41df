import Derived.Test.YtldcalmoboeeiaaDoorAmInl
import Derived.Test.YtldcalmoboeeiaaDoorAmLib
import Derived.Test.YtldcalmoboeeiaaDoorAmTypes
import Derived.Test.YtldcalmoboeeiaaDoorBindBase
set_option linter.unusedSimpArgs false
set_option linter.unusedVariables false
namespace Go.Proofs.YtldcalmoboeeiaaDoor
open Go Go.AM Go.RowKit
attribute [local irreducible] aCode aUnr aUnS aOut
/-- A side: does it see, is it seen, has it asked, is it wanted? -/
structure Sd where
  t : Bool
  f : Bool
  a : Bool
  w : Bool
  deriving DecidableEq
def Sd.sub (s : Sd) : Int := match s.t, s.f with
  | false, false => 0
  | true, false => 1
  | false, true => 2
  | true, true => 3
def sdL (s : Sd) : List AV := [mkI .i64 s.sub, mkB s.a, mkB s.w]
def mkSd (s : Sd) : AV := .ag (sdL s)
def sdOf (n : Int) (b c : Bool) : Sd := ⟨n == 1 || n == 3, n == 2 || n == 3, b, c⟩
theorem sub_of {n : Int} (b c : Bool) (h : 0 ≤ n ∧ n ≤ 3) : (sdOf n b c).sub = n := by
  have : n = 0 ∨ n = 1 ∨ n = 2 ∨ n = 3 := by omega
  rcases this with rfl | rfl | rfl | rfl <;> rfl
theorem sd_of (s : Sd) : sdOf s.sub s.a s.w = s := by
  obtain ⟨t, f, a, w⟩ := s
  cases t <;> cases f <;> rfl
theorem sub_in (s : Sd) : 0 ≤ s.sub ∧ s.sub ≤ 3 := by
  obtain ⟨t, f, a, w⟩ := s
  cases t <;> cases f <;> simp [Sd.sub]
def Sd.zero : Sd := ⟨false, false, false, false⟩
/-- What comes of an act. -/
structure St where
  s : Sd
  tell : Bool
  echo : Bool
def mkSt (x : St) : AV := .ag (sdL x.s ++ [mkB x.tell, mkB x.echo])
def rightM (s : Sd) : Bool := !(s.a && s.t) && !(s.w && s.f)
def seeM (s : Sd) (b : Bool) : Sd := ⟨b, s.f, false, s.w⟩
def showM (s : Sd) (b : Bool) : Sd := ⟨s.t, b, s.a, false⟩
def whenM (tell : Bool) (old side : Sd) : St := if tell then ⟨side, true, false⟩ else ⟨old, false, false⟩
def doM (s : Sd) (act : Int) : St × Int :=
  if rightM s = false then (⟨Sd.zero, false, false⟩, 1)
  else if act = 1 then (whenM true s ⟨s.t, s.f, !s.t, s.w⟩, 0)
  else if act = 2 then (whenM s.w s (showM s true), 0)
  else if act = 3 then (whenM (s.t || s.a) s (seeM s false), 0)
  else if act = 4 then (whenM (s.f || s.w) s (showM s false), 0)
  else (⟨Sd.zero, false, false⟩, 1)
def hearM (s : Sd) (act : Int) : St × Int :=
  if rightM s = false then (⟨Sd.zero, false, false⟩, 1)
  else if act = 1 then (if s.f then (⟨s, false, true⟩, 0) else (whenM (!s.w) s ⟨s.t, s.f, s.a, true⟩, 0))
  else if act = 2 then (whenM s.a s (seeM s true), 0)
  else if act = 3 then (whenM (s.f || s.w) s (showM s false), 0)
  else if act = 4 then (whenM (s.t || s.a) s (seeM s false), 0)
  else (⟨Sd.zero, false, false⟩, 1)
def bothM (a b : Sd) (act : Int) : Sd × Sd × Int :=
  if (doM a act).2 ≠ 0 ∨ rightM b = false then (Sd.zero, Sd.zero, 1)
  else if (doM a act).1.tell = false then ((doM a act).1.s, b, 0)
  else if (hearM b act).2 = 0 ∧ (hearM b act).1.echo = true then ((hearM (doM a act).1.s 2).1.s, (hearM b act).1.s, (hearM (doM a act).1.s 2).2)
  else ((doM a act).1.s, (hearM b act).1.s, (hearM b act).2)
theorem rSees (a : Int) (b c : Bool) (q : AV → Prop) :
  (aCode Tryd.K [] Tryd.b29 (kRet Tryd.K Tryd.f29.results.toList q) ⟨[.ag [mkI .i64 a, mkB b, mkB c]] ++ List.replicate (Tryd.f29.ntmps - 1) .jk, []⟩) = (
  bcase (a == (1 : Int)) (
   q (mkB true)) (
   q (mkB (a == (3 : Int))))) := by kernel_rfl
theorem rSeen (a : Int) (b c : Bool) (q : AV → Prop) :
  (aCode Tryd.K [] Tryd.b55 (kRet Tryd.K Tryd.f55.results.toList q) ⟨[.ag [mkI .i64 a, mkB b, mkB c]] ++ List.replicate (Tryd.f55.ntmps - 1) .jk, []⟩) = (
  bcase (a == (2 : Int)) (
   q (mkB true)) (
   q (mkB (a == (3 : Int))))) := by kernel_rfl
def FSees : List AV → Option (Prop × AV) := fun al => match al with
  | [.ag [.d (.v (.int .i64 n)), .d (.v (.bool b)), .d (.v (.bool c))]] => some (0 ≤ n ∧ n ≤ 3, mkB (sdOf n b c).t)
  | _ => none
def FSeen : List AV → Option (Prop × AV) := fun al => match al with
  | [.ag [.d (.v (.int .i64 n)), .d (.v (.bool b)), .d (.v (.bool c))]] => some (0 ≤ n ∧ n ≤ 3, mkB (sdOf n b c).f)
  | _ => none
theorem cSees : PSound Tryd.prog 29 (detE FSees) := by
  refine det_fn (c := Tryd.b29) mixed Tryd.K_ok gsound_nil Tryd.func29 rfl rfl Tryd.call29 fun al p r q hF hp hq => ?_
  unfold FSees at hF; split at hF <;> cases hF
  rename_i n b c
  refine cast (rSees n b c q).symm ?_
  have : n = 0 ∨ n = 1 ∨ n = 2 ∨ n = 3 := by omega
  rcases this with rfl | rfl | rfl | rfl <;> exact hq
theorem cSeen : PSound Tryd.prog 55 (detE FSeen) := by
  refine det_fn (c := Tryd.b55) mixed Tryd.K_ok gsound_nil Tryd.func55 rfl rfl Tryd.call55 fun al p r q hF hp hq => ?_
  unfold FSeen at hF; split at hF <;> cases hF
  rename_i n b c
  refine cast (rSeen n b c q).symm ?_
  have : n = 0 ∨ n = 1 ∨ n = 2 ∨ n = 3 := by omega
  rcases this with rfl | rfl | rfl | rfl <;> exact hq
abbrev GP1 : List (FuncId × En) := [(29, .det FSees), (55, .det FSeen)]
theorem gp1 : GSound Tryd.prog GP1 := gsound_det cSees (gsound_det cSeen gsound_nil)
theorem rRight (a : Int) (b c : Bool) (q : AV → Prop) :
  (aCode Tryd.K GP1 Tryd.b27 (kRet Tryd.K Tryd.f27.results.toList q) ⟨[.ag [mkI .i64 a, mkB b, mkB c]] ++ List.replicate (Tryd.f27.ntmps - 1) .jk, []⟩) = (
  bcase (decide (a ≥ (0 : Int))) (
   bcase (decide (a ≤ (3 : Int))) (
    bcase b (
     (((0 : Int) ≤ a) ∧ (a ≤ (3 : Int))) ∧
     bcase (!(Sd.t (sdOf a b c))) (
      bcase c (
       (((0 : Int) ≤ a) ∧ (a ≤ (3 : Int))) ∧
       q (mkB (!(Sd.f (sdOf a b c))))) (
       q (mkB (!false)))) (
      q (mkB false))) (
     bcase c (
      (((0 : Int) ≤ a) ∧ (a ≤ (3 : Int))) ∧
      q (mkB (!(Sd.f (sdOf a b c))))) (
      q (mkB (!false))))) (
    q (mkB false))) (
   q (mkB false))) := by kernel_rfl
theorem rsee (a : Int) (b c d : Bool) (q : AV → Prop) :
  (aCode Tryd.K [] Tryd.b111 (kRet Tryd.K Tryd.f111.results.toList q) ⟨[.ag [mkI .i64 a, mkB b, mkB c], mkB d] ++ List.replicate (Tryd.f111.ntmps - 2) .jk, []⟩) = (
  bcase d (
   q (AV.ag [mkI .i64 (orZ IntKind.i64 (andZ IntKind.i64 a (2 : Int)) (1 : Int)), mkB false, mkB c])) (
   q (AV.ag [mkI .i64 (andZ IntKind.i64 a (2 : Int)), mkB false, mkB c]))) := by kernel_rfl
theorem rshow (a : Int) (b c d : Bool) (q : AV → Prop) :
  (aCode Tryd.K [] Tryd.b110 (kRet Tryd.K Tryd.f110.results.toList q) ⟨[.ag [mkI .i64 a, mkB b, mkB c], mkB d] ++ List.replicate (Tryd.f110.ntmps - 2) .jk, []⟩) = (
  bcase d (
   q (AV.ag [mkI .i64 (orZ IntKind.i64 (andZ IntKind.i64 a (1 : Int)) (2 : Int)), mkB b, mkB false])) (
   q (AV.ag [mkI .i64 (andZ IntKind.i64 a (1 : Int)), mkB b, mkB false]))) := by kernel_rfl
theorem rwhen (t : Bool) (a : Int) (b c : Bool) (d : Int) (e f : Bool) (q : AV → Prop) :
  (aCode Tryd.K [] Tryd.b109 (kRet Tryd.K Tryd.f109.results.toList q) ⟨[mkB t, .ag [mkI .i64 a, mkB b, mkB c], .ag [mkI .i64 d, mkB e, mkB f]] ++ List.replicate (Tryd.f109.ntmps - 3) .jk, []⟩) = (
  bcase (!t) (
   q (AV.ag [mkI .i64 a, mkB b, mkB c, mkB false, mkB false])) (
   q (AV.ag [mkI .i64 d, mkB e, mkB f, mkB true, mkB false]))) := by kernel_rfl
def FRight : List AV → Option (Prop × AV) := fun al => match al with
  | [.ag [.d (.v (.int .i64 n)), .d (.v (.bool b)), .d (.v (.bool c))]] => some (0 ≤ n ∧ n ≤ 3, mkB (rightM (sdOf n b c)))
  | _ => none
def Fsee : List AV → Option (Prop × AV) := fun al => match al with
  | [.ag [.d (.v (.int .i64 n)), .d (.v (.bool b)), .d (.v (.bool c))], .d (.v (.bool d))] => some (0 ≤ n ∧ n ≤ 3, mkSd (seeM (sdOf n b c) d))
  | _ => none
def Fshow : List AV → Option (Prop × AV) := fun al => match al with
  | [.ag [.d (.v (.int .i64 n)), .d (.v (.bool b)), .d (.v (.bool c))], .d (.v (.bool d))] => some (0 ≤ n ∧ n ≤ 3, mkSd (showM (sdOf n b c) d))
  | _ => none
def Fwhen : List AV → Option (Prop × AV) := fun al => match al with
  | [.d (.v (.bool t)), .ag [.d (.v (.int .i64 n)), .d (.v (.bool b)), .d (.v (.bool c))], .ag [.d (.v (.int .i64 m)), .d (.v (.bool d)), .d (.v (.bool e))]] => some ((0 ≤ n ∧ n ≤ 3) ∧ (0 ≤ m ∧ m ≤ 3), mkSt (whenM t (sdOf n b c) (sdOf m d e)))
  | _ => none
theorem cRight : PSound Tryd.prog 27 (detE FRight) := by
  refine det_fn (c := Tryd.b27) mixed Tryd.K_ok gp1 Tryd.func27 rfl rfl Tryd.call27 fun al p r q hF hp hq => ?_
  unfold FRight at hF; split at hF <;> cases hF
  rename_i n b c
  refine cast (rRight n b c q).symm ?_
  have : n = 0 ∨ n = 1 ∨ n = 2 ∨ n = 3 := by omega
  rcases this with rfl | rfl | rfl | rfl <;> cases b <;> cases c <;> simp [bcase] <;> exact hq
theorem csee : PSound Tryd.prog 111 (detE Fsee) := by
  refine det_fn (c := Tryd.b111) mixed Tryd.K_ok gsound_nil Tryd.func111 rfl rfl Tryd.call111 fun al p r q hF hp hq => ?_
  unfold Fsee at hF; split at hF <;> cases hF
  rename_i n b c d
  simp only [List.length_cons, List.length_nil, Nat.zero_add, Nat.reduceAdd]
  refine cast (rsee n b c d q).symm ?_
  have : n = 0 ∨ n = 1 ∨ n = 2 ∨ n = 3 := by omega
  rcases this with rfl | rfl | rfl | rfl <;> cases b <;> cases c <;> cases d <;> exact cast (by kernel_rfl) hq
theorem cshow : PSound Tryd.prog 110 (detE Fshow) := by
  refine det_fn (c := Tryd.b110) mixed Tryd.K_ok gsound_nil Tryd.func110 rfl rfl Tryd.call110 fun al p r q hF hp hq => ?_
  unfold Fshow at hF; split at hF <;> cases hF
  rename_i n b c d
  simp only [List.length_cons, List.length_nil, Nat.zero_add, Nat.reduceAdd]
  refine cast (rshow n b c d q).symm ?_
  have : n = 0 ∨ n = 1 ∨ n = 2 ∨ n = 3 := by omega
  rcases this with rfl | rfl | rfl | rfl <;> cases b <;> cases c <;> cases d <;> exact cast (by kernel_rfl) hq
theorem cwhen : PSound Tryd.prog 109 (detE Fwhen) := by
  refine det_fn (c := Tryd.b109) mixed Tryd.K_ok gsound_nil Tryd.func109 rfl rfl Tryd.call109 fun al p r q hF hp hq => ?_
  unfold Fwhen at hF; split at hF <;> cases hF
  rename_i t n b c m d e
  refine cast (rwhen t n b c m d e q).symm ?_
  obtain ⟨h1, h2⟩ := hp
  cases t
  · simp only [whenM, mkSt, sdL, Bool.false_eq_true, if_false, sub_of _ _ h1] at hq
    exact hq
  · simp only [whenM, mkSt, sdL, if_true, sub_of _ _ h2] at hq
    exact hq
abbrev GP2 : List (FuncId × En) := [(29, .det FSees), (55, .det FSeen), (27, .det FRight), (111, .det Fsee), (110, .det Fshow), (109, .det Fwhen)]
theorem gp2 : GSound Tryd.prog GP2 := gsound_det cSees (gsound_det cSeen (gsound_det cRight (gsound_det csee (gsound_det cshow (gsound_det cwhen gsound_nil)))))
theorem rDo (n : Int) (b c : Bool) (act : Int) (q : AV → Prop) :
  (aCode Tryd.K GP2 Tryd.b76 (kRet Tryd.K Tryd.f76.results.toList q) ⟨[.ag [mkI .i64 n, mkB b, mkB c], mkI .i64 act] ++ List.replicate (Tryd.f76.ntmps - 2) .jk, []⟩) = (
  (((0 : Int) ≤ n) ∧ (n ≤ (3 : Int))) ∧
  bcase (!(rightM (sdOf n b c))) (
   q (AV.tp [AV.ag [mkI .i64 (0 : Int), mkB false, mkB false, mkB false, mkB false], mkI .i64 (1 : Int)])) (
   bcase (act == (1 : Int)) (
    (((0 : Int) ≤ n) ∧ (n ≤ (3 : Int))) ∧
    ((((0 : Int) ≤ n) ∧ (n ≤ (3 : Int))) ∧ (((0 : Int) ≤ n) ∧ (n ≤ (3 : Int)))) ∧
    q (AV.tp [AV.ag [mkI .i64 (Sd.sub (St.s (whenM true (sdOf n b c) (sdOf n (!(Sd.t (sdOf n b c))) c)))), mkB (Sd.a (St.s (whenM true (sdOf n b c) (sdOf n (!(Sd.t (sdOf n b c))) c)))), mkB (Sd.w (St.s (whenM true (sdOf n b c) (sdOf n (!(Sd.t (sdOf n b c))) c)))), mkB (St.tell (whenM true (sdOf n b c) (sdOf n (!(Sd.t (sdOf n b c))) c))), mkB (St.echo (whenM true (sdOf n b c) (sdOf n (!(Sd.t (sdOf n b c))) c)))], mkI .i64 (0 : Int)])) (
    bcase (act == (2 : Int)) (
     (((0 : Int) ≤ n) ∧ (n ≤ (3 : Int))) ∧
     ((((0 : Int) ≤ n) ∧ (n ≤ (3 : Int))) ∧ (((0 : Int) ≤ (Sd.sub (showM (sdOf n b c) true))) ∧ ((Sd.sub (showM (sdOf n b c) true)) ≤ (3 : Int)))) ∧
     q (AV.tp [AV.ag [mkI .i64 (Sd.sub (St.s (whenM c (sdOf n b c) (sdOf (Sd.sub (showM (sdOf n b c) true)) (Sd.a (showM (sdOf n b c) true)) (Sd.w (showM (sdOf n b c) true)))))), mkB (Sd.a (St.s (whenM c (sdOf n b c) (sdOf (Sd.sub (showM (sdOf n b c) true)) (Sd.a (showM (sdOf n b c) true)) (Sd.w (showM (sdOf n b c) true)))))), mkB (Sd.w (St.s (whenM c (sdOf n b c) (sdOf (Sd.sub (showM (sdOf n b c) true)) (Sd.a (showM (sdOf n b c) true)) (Sd.w (showM (sdOf n b c) true)))))), mkB (St.tell (whenM c (sdOf n b c) (sdOf (Sd.sub (showM (sdOf n b c) true)) (Sd.a (showM (sdOf n b c) true)) (Sd.w (showM (sdOf n b c) true))))), mkB (St.echo (whenM c (sdOf n b c) (sdOf (Sd.sub (showM (sdOf n b c) true)) (Sd.a (showM (sdOf n b c) true)) (Sd.w (showM (sdOf n b c) true)))))], mkI .i64 (0 : Int)])) (
     bcase (act == (3 : Int)) (
      (((0 : Int) ≤ n) ∧ (n ≤ (3 : Int))) ∧
      bcase (Sd.t (sdOf n b c)) (
       ((((0 : Int) ≤ n) ∧ (n ≤ (3 : Int))) ∧ (((((0 : Int) ≤ n) ∧ (n ≤ (3 : Int))) ∧ (((0 : Int) ≤ (Sd.sub (seeM (sdOf n b c) false))) ∧ ((Sd.sub (seeM (sdOf n b c) false)) ≤ (3 : Int)))) ∧ (q (AV.tp [AV.ag [mkI .i64 (Sd.sub (St.s (whenM true (sdOf n b c) (sdOf (Sd.sub (seeM (sdOf n b c) false)) (Sd.a (seeM (sdOf n b c) false)) (Sd.w (seeM (sdOf n b c) false)))))), mkB (Sd.a (St.s (whenM true (sdOf n b c) (sdOf (Sd.sub (seeM (sdOf n b c) false)) (Sd.a (seeM (sdOf n b c) false)) (Sd.w (seeM (sdOf n b c) false)))))), mkB (Sd.w (St.s (whenM true (sdOf n b c) (sdOf (Sd.sub (seeM (sdOf n b c) false)) (Sd.a (seeM (sdOf n b c) false)) (Sd.w (seeM (sdOf n b c) false)))))), mkB (St.tell (whenM true (sdOf n b c) (sdOf (Sd.sub (seeM (sdOf n b c) false)) (Sd.a (seeM (sdOf n b c) false)) (Sd.w (seeM (sdOf n b c) false))))), mkB (St.echo (whenM true (sdOf n b c) (sdOf (Sd.sub (seeM (sdOf n b c) false)) (Sd.a (seeM (sdOf n b c) false)) (Sd.w (seeM (sdOf n b c) false)))))], mkI .i64 (0 : Int)])))) ∧
       (((0 : Int) ≤ n) ∧ (n ≤ (3 : Int))) ∧
       ((((0 : Int) ≤ n) ∧ (n ≤ (3 : Int))) ∧ (((0 : Int) ≤ (Sd.sub (seeM (sdOf n b c) false))) ∧ ((Sd.sub (seeM (sdOf n b c) false)) ≤ (3 : Int)))) ∧
       q (AV.tp [AV.ag [mkI .i64 (Sd.sub (St.s (whenM true (sdOf n b c) (sdOf (Sd.sub (seeM (sdOf n b c) false)) (Sd.a (seeM (sdOf n b c) false)) (Sd.w (seeM (sdOf n b c) false)))))), mkB (Sd.a (St.s (whenM true (sdOf n b c) (sdOf (Sd.sub (seeM (sdOf n b c) false)) (Sd.a (seeM (sdOf n b c) false)) (Sd.w (seeM (sdOf n b c) false)))))), mkB (Sd.w (St.s (whenM true (sdOf n b c) (sdOf (Sd.sub (seeM (sdOf n b c) false)) (Sd.a (seeM (sdOf n b c) false)) (Sd.w (seeM (sdOf n b c) false)))))), mkB (St.tell (whenM true (sdOf n b c) (sdOf (Sd.sub (seeM (sdOf n b c) false)) (Sd.a (seeM (sdOf n b c) false)) (Sd.w (seeM (sdOf n b c) false))))), mkB (St.echo (whenM true (sdOf n b c) (sdOf (Sd.sub (seeM (sdOf n b c) false)) (Sd.a (seeM (sdOf n b c) false)) (Sd.w (seeM (sdOf n b c) false)))))], mkI .i64 (0 : Int)])) (
       (((0 : Int) ≤ n) ∧ (n ≤ (3 : Int))) ∧
       ((((0 : Int) ≤ n) ∧ (n ≤ (3 : Int))) ∧ (((0 : Int) ≤ (Sd.sub (seeM (sdOf n b c) false))) ∧ ((Sd.sub (seeM (sdOf n b c) false)) ≤ (3 : Int)))) ∧
       q (AV.tp [AV.ag [mkI .i64 (Sd.sub (St.s (whenM b (sdOf n b c) (sdOf (Sd.sub (seeM (sdOf n b c) false)) (Sd.a (seeM (sdOf n b c) false)) (Sd.w (seeM (sdOf n b c) false)))))), mkB (Sd.a (St.s (whenM b (sdOf n b c) (sdOf (Sd.sub (seeM (sdOf n b c) false)) (Sd.a (seeM (sdOf n b c) false)) (Sd.w (seeM (sdOf n b c) false)))))), mkB (Sd.w (St.s (whenM b (sdOf n b c) (sdOf (Sd.sub (seeM (sdOf n b c) false)) (Sd.a (seeM (sdOf n b c) false)) (Sd.w (seeM (sdOf n b c) false)))))), mkB (St.tell (whenM b (sdOf n b c) (sdOf (Sd.sub (seeM (sdOf n b c) false)) (Sd.a (seeM (sdOf n b c) false)) (Sd.w (seeM (sdOf n b c) false))))), mkB (St.echo (whenM b (sdOf n b c) (sdOf (Sd.sub (seeM (sdOf n b c) false)) (Sd.a (seeM (sdOf n b c) false)) (Sd.w (seeM (sdOf n b c) false)))))], mkI .i64 (0 : Int)]))) (
      bcase (act == (4 : Int)) (
       (((0 : Int) ≤ n) ∧ (n ≤ (3 : Int))) ∧
       bcase (Sd.f (sdOf n b c)) (
        ((((0 : Int) ≤ n) ∧ (n ≤ (3 : Int))) ∧ (((((0 : Int) ≤ n) ∧ (n ≤ (3 : Int))) ∧ (((0 : Int) ≤ (Sd.sub (showM (sdOf n b c) false))) ∧ ((Sd.sub (showM (sdOf n b c) false)) ≤ (3 : Int)))) ∧ (q (AV.tp [AV.ag [mkI .i64 (Sd.sub (St.s (whenM true (sdOf n b c) (sdOf (Sd.sub (showM (sdOf n b c) false)) (Sd.a (showM (sdOf n b c) false)) (Sd.w (showM (sdOf n b c) false)))))), mkB (Sd.a (St.s (whenM true (sdOf n b c) (sdOf (Sd.sub (showM (sdOf n b c) false)) (Sd.a (showM (sdOf n b c) false)) (Sd.w (showM (sdOf n b c) false)))))), mkB (Sd.w (St.s (whenM true (sdOf n b c) (sdOf (Sd.sub (showM (sdOf n b c) false)) (Sd.a (showM (sdOf n b c) false)) (Sd.w (showM (sdOf n b c) false)))))), mkB (St.tell (whenM true (sdOf n b c) (sdOf (Sd.sub (showM (sdOf n b c) false)) (Sd.a (showM (sdOf n b c) false)) (Sd.w (showM (sdOf n b c) false))))), mkB (St.echo (whenM true (sdOf n b c) (sdOf (Sd.sub (showM (sdOf n b c) false)) (Sd.a (showM (sdOf n b c) false)) (Sd.w (showM (sdOf n b c) false)))))], mkI .i64 (0 : Int)])))) ∧
        (((0 : Int) ≤ n) ∧ (n ≤ (3 : Int))) ∧
        ((((0 : Int) ≤ n) ∧ (n ≤ (3 : Int))) ∧ (((0 : Int) ≤ (Sd.sub (showM (sdOf n b c) false))) ∧ ((Sd.sub (showM (sdOf n b c) false)) ≤ (3 : Int)))) ∧
        q (AV.tp [AV.ag [mkI .i64 (Sd.sub (St.s (whenM true (sdOf n b c) (sdOf (Sd.sub (showM (sdOf n b c) false)) (Sd.a (showM (sdOf n b c) false)) (Sd.w (showM (sdOf n b c) false)))))), mkB (Sd.a (St.s (whenM true (sdOf n b c) (sdOf (Sd.sub (showM (sdOf n b c) false)) (Sd.a (showM (sdOf n b c) false)) (Sd.w (showM (sdOf n b c) false)))))), mkB (Sd.w (St.s (whenM true (sdOf n b c) (sdOf (Sd.sub (showM (sdOf n b c) false)) (Sd.a (showM (sdOf n b c) false)) (Sd.w (showM (sdOf n b c) false)))))), mkB (St.tell (whenM true (sdOf n b c) (sdOf (Sd.sub (showM (sdOf n b c) false)) (Sd.a (showM (sdOf n b c) false)) (Sd.w (showM (sdOf n b c) false))))), mkB (St.echo (whenM true (sdOf n b c) (sdOf (Sd.sub (showM (sdOf n b c) false)) (Sd.a (showM (sdOf n b c) false)) (Sd.w (showM (sdOf n b c) false)))))], mkI .i64 (0 : Int)])) (
        (((0 : Int) ≤ n) ∧ (n ≤ (3 : Int))) ∧
        ((((0 : Int) ≤ n) ∧ (n ≤ (3 : Int))) ∧ (((0 : Int) ≤ (Sd.sub (showM (sdOf n b c) false))) ∧ ((Sd.sub (showM (sdOf n b c) false)) ≤ (3 : Int)))) ∧
        q (AV.tp [AV.ag [mkI .i64 (Sd.sub (St.s (whenM c (sdOf n b c) (sdOf (Sd.sub (showM (sdOf n b c) false)) (Sd.a (showM (sdOf n b c) false)) (Sd.w (showM (sdOf n b c) false)))))), mkB (Sd.a (St.s (whenM c (sdOf n b c) (sdOf (Sd.sub (showM (sdOf n b c) false)) (Sd.a (showM (sdOf n b c) false)) (Sd.w (showM (sdOf n b c) false)))))), mkB (Sd.w (St.s (whenM c (sdOf n b c) (sdOf (Sd.sub (showM (sdOf n b c) false)) (Sd.a (showM (sdOf n b c) false)) (Sd.w (showM (sdOf n b c) false)))))), mkB (St.tell (whenM c (sdOf n b c) (sdOf (Sd.sub (showM (sdOf n b c) false)) (Sd.a (showM (sdOf n b c) false)) (Sd.w (showM (sdOf n b c) false))))), mkB (St.echo (whenM c (sdOf n b c) (sdOf (Sd.sub (showM (sdOf n b c) false)) (Sd.a (showM (sdOf n b c) false)) (Sd.w (showM (sdOf n b c) false)))))], mkI .i64 (0 : Int)]))) (
       q (AV.tp [AV.ag [mkI .i64 (0 : Int), mkB false, mkB false, mkB false, mkB false], mkI .i64 (1 : Int)]))))))) := by kernel_rfl
theorem rHear (n : Int) (b c : Bool) (act : Int) (q : AV → Prop) :
  (aCode Tryd.K GP2 Tryd.b77 (kRet Tryd.K Tryd.f77.results.toList q) ⟨[.ag [mkI .i64 n, mkB b, mkB c], mkI .i64 act] ++ List.replicate (Tryd.f77.ntmps - 2) .jk, []⟩) = (
  (((0 : Int) ≤ n) ∧ (n ≤ (3 : Int))) ∧
  bcase (!(rightM (sdOf n b c))) (
   q (AV.tp [AV.ag [mkI .i64 (0 : Int), mkB false, mkB false, mkB false, mkB false], mkI .i64 (1 : Int)])) (
   bcase (act == (1 : Int)) (
    (((0 : Int) ≤ n) ∧ (n ≤ (3 : Int))) ∧
    bcase (Sd.f (sdOf n b c)) (
     q (AV.tp [AV.ag [mkI .i64 n, mkB b, mkB c, mkB false, mkB true], mkI .i64 (0 : Int)])) (
     ((((0 : Int) ≤ n) ∧ (n ≤ (3 : Int))) ∧ (((0 : Int) ≤ n) ∧ (n ≤ (3 : Int)))) ∧
     q (AV.tp [AV.ag [mkI .i64 (Sd.sub (St.s (whenM (!c) (sdOf n b c) (sdOf n b true)))), mkB (Sd.a (St.s (whenM (!c) (sdOf n b c) (sdOf n b true)))), mkB (Sd.w (St.s (whenM (!c) (sdOf n b c) (sdOf n b true)))), mkB (St.tell (whenM (!c) (sdOf n b c) (sdOf n b true))), mkB (St.echo (whenM (!c) (sdOf n b c) (sdOf n b true)))], mkI .i64 (0 : Int)]))) (
    bcase (act == (2 : Int)) (
     (((0 : Int) ≤ n) ∧ (n ≤ (3 : Int))) ∧
     ((((0 : Int) ≤ n) ∧ (n ≤ (3 : Int))) ∧ (((0 : Int) ≤ (Sd.sub (seeM (sdOf n b c) true))) ∧ ((Sd.sub (seeM (sdOf n b c) true)) ≤ (3 : Int)))) ∧
     q (AV.tp [AV.ag [mkI .i64 (Sd.sub (St.s (whenM b (sdOf n b c) (sdOf (Sd.sub (seeM (sdOf n b c) true)) (Sd.a (seeM (sdOf n b c) true)) (Sd.w (seeM (sdOf n b c) true)))))), mkB (Sd.a (St.s (whenM b (sdOf n b c) (sdOf (Sd.sub (seeM (sdOf n b c) true)) (Sd.a (seeM (sdOf n b c) true)) (Sd.w (seeM (sdOf n b c) true)))))), mkB (Sd.w (St.s (whenM b (sdOf n b c) (sdOf (Sd.sub (seeM (sdOf n b c) true)) (Sd.a (seeM (sdOf n b c) true)) (Sd.w (seeM (sdOf n b c) true)))))), mkB (St.tell (whenM b (sdOf n b c) (sdOf (Sd.sub (seeM (sdOf n b c) true)) (Sd.a (seeM (sdOf n b c) true)) (Sd.w (seeM (sdOf n b c) true))))), mkB (St.echo (whenM b (sdOf n b c) (sdOf (Sd.sub (seeM (sdOf n b c) true)) (Sd.a (seeM (sdOf n b c) true)) (Sd.w (seeM (sdOf n b c) true)))))], mkI .i64 (0 : Int)])) (
     bcase (act == (3 : Int)) (
      (((0 : Int) ≤ n) ∧ (n ≤ (3 : Int))) ∧
      bcase (Sd.f (sdOf n b c)) (
       ((((0 : Int) ≤ n) ∧ (n ≤ (3 : Int))) ∧ (((((0 : Int) ≤ n) ∧ (n ≤ (3 : Int))) ∧ (((0 : Int) ≤ (Sd.sub (showM (sdOf n b c) false))) ∧ ((Sd.sub (showM (sdOf n b c) false)) ≤ (3 : Int)))) ∧ (q (AV.tp [AV.ag [mkI .i64 (Sd.sub (St.s (whenM true (sdOf n b c) (sdOf (Sd.sub (showM (sdOf n b c) false)) (Sd.a (showM (sdOf n b c) false)) (Sd.w (showM (sdOf n b c) false)))))), mkB (Sd.a (St.s (whenM true (sdOf n b c) (sdOf (Sd.sub (showM (sdOf n b c) false)) (Sd.a (showM (sdOf n b c) false)) (Sd.w (showM (sdOf n b c) false)))))), mkB (Sd.w (St.s (whenM true (sdOf n b c) (sdOf (Sd.sub (showM (sdOf n b c) false)) (Sd.a (showM (sdOf n b c) false)) (Sd.w (showM (sdOf n b c) false)))))), mkB (St.tell (whenM true (sdOf n b c) (sdOf (Sd.sub (showM (sdOf n b c) false)) (Sd.a (showM (sdOf n b c) false)) (Sd.w (showM (sdOf n b c) false))))), mkB (St.echo (whenM true (sdOf n b c) (sdOf (Sd.sub (showM (sdOf n b c) false)) (Sd.a (showM (sdOf n b c) false)) (Sd.w (showM (sdOf n b c) false)))))], mkI .i64 (0 : Int)])))) ∧
       (((0 : Int) ≤ n) ∧ (n ≤ (3 : Int))) ∧
       ((((0 : Int) ≤ n) ∧ (n ≤ (3 : Int))) ∧ (((0 : Int) ≤ (Sd.sub (showM (sdOf n b c) false))) ∧ ((Sd.sub (showM (sdOf n b c) false)) ≤ (3 : Int)))) ∧
       q (AV.tp [AV.ag [mkI .i64 (Sd.sub (St.s (whenM true (sdOf n b c) (sdOf (Sd.sub (showM (sdOf n b c) false)) (Sd.a (showM (sdOf n b c) false)) (Sd.w (showM (sdOf n b c) false)))))), mkB (Sd.a (St.s (whenM true (sdOf n b c) (sdOf (Sd.sub (showM (sdOf n b c) false)) (Sd.a (showM (sdOf n b c) false)) (Sd.w (showM (sdOf n b c) false)))))), mkB (Sd.w (St.s (whenM true (sdOf n b c) (sdOf (Sd.sub (showM (sdOf n b c) false)) (Sd.a (showM (sdOf n b c) false)) (Sd.w (showM (sdOf n b c) false)))))), mkB (St.tell (whenM true (sdOf n b c) (sdOf (Sd.sub (showM (sdOf n b c) false)) (Sd.a (showM (sdOf n b c) false)) (Sd.w (showM (sdOf n b c) false))))), mkB (St.echo (whenM true (sdOf n b c) (sdOf (Sd.sub (showM (sdOf n b c) false)) (Sd.a (showM (sdOf n b c) false)) (Sd.w (showM (sdOf n b c) false)))))], mkI .i64 (0 : Int)])) (
       (((0 : Int) ≤ n) ∧ (n ≤ (3 : Int))) ∧
       ((((0 : Int) ≤ n) ∧ (n ≤ (3 : Int))) ∧ (((0 : Int) ≤ (Sd.sub (showM (sdOf n b c) false))) ∧ ((Sd.sub (showM (sdOf n b c) false)) ≤ (3 : Int)))) ∧
       q (AV.tp [AV.ag [mkI .i64 (Sd.sub (St.s (whenM c (sdOf n b c) (sdOf (Sd.sub (showM (sdOf n b c) false)) (Sd.a (showM (sdOf n b c) false)) (Sd.w (showM (sdOf n b c) false)))))), mkB (Sd.a (St.s (whenM c (sdOf n b c) (sdOf (Sd.sub (showM (sdOf n b c) false)) (Sd.a (showM (sdOf n b c) false)) (Sd.w (showM (sdOf n b c) false)))))), mkB (Sd.w (St.s (whenM c (sdOf n b c) (sdOf (Sd.sub (showM (sdOf n b c) false)) (Sd.a (showM (sdOf n b c) false)) (Sd.w (showM (sdOf n b c) false)))))), mkB (St.tell (whenM c (sdOf n b c) (sdOf (Sd.sub (showM (sdOf n b c) false)) (Sd.a (showM (sdOf n b c) false)) (Sd.w (showM (sdOf n b c) false))))), mkB (St.echo (whenM c (sdOf n b c) (sdOf (Sd.sub (showM (sdOf n b c) false)) (Sd.a (showM (sdOf n b c) false)) (Sd.w (showM (sdOf n b c) false)))))], mkI .i64 (0 : Int)]))) (
      bcase (act == (4 : Int)) (
       (((0 : Int) ≤ n) ∧ (n ≤ (3 : Int))) ∧
       bcase (Sd.t (sdOf n b c)) (
        ((((0 : Int) ≤ n) ∧ (n ≤ (3 : Int))) ∧ (((((0 : Int) ≤ n) ∧ (n ≤ (3 : Int))) ∧ (((0 : Int) ≤ (Sd.sub (seeM (sdOf n b c) false))) ∧ ((Sd.sub (seeM (sdOf n b c) false)) ≤ (3 : Int)))) ∧ (q (AV.tp [AV.ag [mkI .i64 (Sd.sub (St.s (whenM true (sdOf n b c) (sdOf (Sd.sub (seeM (sdOf n b c) false)) (Sd.a (seeM (sdOf n b c) false)) (Sd.w (seeM (sdOf n b c) false)))))), mkB (Sd.a (St.s (whenM true (sdOf n b c) (sdOf (Sd.sub (seeM (sdOf n b c) false)) (Sd.a (seeM (sdOf n b c) false)) (Sd.w (seeM (sdOf n b c) false)))))), mkB (Sd.w (St.s (whenM true (sdOf n b c) (sdOf (Sd.sub (seeM (sdOf n b c) false)) (Sd.a (seeM (sdOf n b c) false)) (Sd.w (seeM (sdOf n b c) false)))))), mkB (St.tell (whenM true (sdOf n b c) (sdOf (Sd.sub (seeM (sdOf n b c) false)) (Sd.a (seeM (sdOf n b c) false)) (Sd.w (seeM (sdOf n b c) false))))), mkB (St.echo (whenM true (sdOf n b c) (sdOf (Sd.sub (seeM (sdOf n b c) false)) (Sd.a (seeM (sdOf n b c) false)) (Sd.w (seeM (sdOf n b c) false)))))], mkI .i64 (0 : Int)])))) ∧
        (((0 : Int) ≤ n) ∧ (n ≤ (3 : Int))) ∧
        ((((0 : Int) ≤ n) ∧ (n ≤ (3 : Int))) ∧ (((0 : Int) ≤ (Sd.sub (seeM (sdOf n b c) false))) ∧ ((Sd.sub (seeM (sdOf n b c) false)) ≤ (3 : Int)))) ∧
        q (AV.tp [AV.ag [mkI .i64 (Sd.sub (St.s (whenM true (sdOf n b c) (sdOf (Sd.sub (seeM (sdOf n b c) false)) (Sd.a (seeM (sdOf n b c) false)) (Sd.w (seeM (sdOf n b c) false)))))), mkB (Sd.a (St.s (whenM true (sdOf n b c) (sdOf (Sd.sub (seeM (sdOf n b c) false)) (Sd.a (seeM (sdOf n b c) false)) (Sd.w (seeM (sdOf n b c) false)))))), mkB (Sd.w (St.s (whenM true (sdOf n b c) (sdOf (Sd.sub (seeM (sdOf n b c) false)) (Sd.a (seeM (sdOf n b c) false)) (Sd.w (seeM (sdOf n b c) false)))))), mkB (St.tell (whenM true (sdOf n b c) (sdOf (Sd.sub (seeM (sdOf n b c) false)) (Sd.a (seeM (sdOf n b c) false)) (Sd.w (seeM (sdOf n b c) false))))), mkB (St.echo (whenM true (sdOf n b c) (sdOf (Sd.sub (seeM (sdOf n b c) false)) (Sd.a (seeM (sdOf n b c) false)) (Sd.w (seeM (sdOf n b c) false)))))], mkI .i64 (0 : Int)])) (
        (((0 : Int) ≤ n) ∧ (n ≤ (3 : Int))) ∧
        ((((0 : Int) ≤ n) ∧ (n ≤ (3 : Int))) ∧ (((0 : Int) ≤ (Sd.sub (seeM (sdOf n b c) false))) ∧ ((Sd.sub (seeM (sdOf n b c) false)) ≤ (3 : Int)))) ∧
        q (AV.tp [AV.ag [mkI .i64 (Sd.sub (St.s (whenM b (sdOf n b c) (sdOf (Sd.sub (seeM (sdOf n b c) false)) (Sd.a (seeM (sdOf n b c) false)) (Sd.w (seeM (sdOf n b c) false)))))), mkB (Sd.a (St.s (whenM b (sdOf n b c) (sdOf (Sd.sub (seeM (sdOf n b c) false)) (Sd.a (seeM (sdOf n b c) false)) (Sd.w (seeM (sdOf n b c) false)))))), mkB (Sd.w (St.s (whenM b (sdOf n b c) (sdOf (Sd.sub (seeM (sdOf n b c) false)) (Sd.a (seeM (sdOf n b c) false)) (Sd.w (seeM (sdOf n b c) false)))))), mkB (St.tell (whenM b (sdOf n b c) (sdOf (Sd.sub (seeM (sdOf n b c) false)) (Sd.a (seeM (sdOf n b c) false)) (Sd.w (seeM (sdOf n b c) false))))), mkB (St.echo (whenM b (sdOf n b c) (sdOf (Sd.sub (seeM (sdOf n b c) false)) (Sd.a (seeM (sdOf n b c) false)) (Sd.w (seeM (sdOf n b c) false)))))], mkI .i64 (0 : Int)]))) (
       q (AV.tp [AV.ag [mkI .i64 (0 : Int), mkB false, mkB false, mkB false, mkB false], mkI .i64 (1 : Int)]))))))) := by kernel_rfl
def FDo : List AV → Option (Prop × AV) := fun al => match al with
  | [.ag [.d (.v (.int .i64 n)), .d (.v (.bool b)), .d (.v (.bool c))], .d (.v (.int .i64 act))] => some (0 ≤ n ∧ n ≤ 3, .tp [mkSt (doM (sdOf n b c) act).1, mkI .i64 (doM (sdOf n b c) act).2])
  | _ => none
def FHear : List AV → Option (Prop × AV) := fun al => match al with
  | [.ag [.d (.v (.int .i64 n)), .d (.v (.bool b)), .d (.v (.bool c))], .d (.v (.int .i64 act))] => some (0 ≤ n ∧ n ≤ 3, .tp [mkSt (hearM (sdOf n b c) act).1, mkI .i64 (hearM (sdOf n b c) act).2])
  | _ => none
theorem act_cases (act : Int) : act = 1 ∨ act = 2 ∨ act = 3 ∨ act = 4 ∨ ((act == 1) = false ∧ (act == 2) = false ∧ (act == 3) = false ∧ (act == 4) = false ∧ ¬ act = 1 ∧ ¬ act = 2 ∧ ¬ act = 3 ∧ ¬ act = 4) := by
  by_cases h1 : act = 1
  · exact .inl h1
  by_cases h2 : act = 2
  · exact .inr (.inl h2)
  by_cases h3 : act = 3
  · exact .inr (.inr (.inl h3))
  by_cases h4 : act = 4
  · exact .inr (.inr (.inr (.inl h4)))
  · refine .inr (.inr (.inr (.inr ⟨?_, ?_, ?_, ?_, h1, h2, h3, h4⟩))) <;> simpa
theorem cDo : PSound Tryd.prog 76 (detE FDo) := by
  refine det_fn (c := Tryd.b76) mixed Tryd.K_ok gp2 Tryd.func76 rfl rfl Tryd.call76 fun al p r q hF hp hq => ?_
  unfold FDo at hF; split at hF <;> cases hF
  rename_i n b c act
  refine cast (rDo n b c act q).symm ?_
  have h4 : n = 0 ∨ n = 1 ∨ n = 2 ∨ n = 3 := by omega
  rcases act_cases act with rfl | rfl | rfl | rfl | ⟨e1, e2, e3, e4, n1, n2, n3, n4⟩
  case' inr.inr.inr.inr => simp only [e1, e2, e3, e4]; simp only [doM, n1, n2, n3, n4, if_false] at hq
  all_goals
    rcases h4 with rfl | rfl | rfl | rfl <;> cases b <;> cases c <;> repeat' (first | exact hp | exact hq | (refine And.intro ?_ ?_) | decide)
theorem cHear : PSound Tryd.prog 77 (detE FHear) := by
  refine det_fn (c := Tryd.b77) mixed Tryd.K_ok gp2 Tryd.func77 rfl rfl Tryd.call77 fun al p r q hF hp hq => ?_
  unfold FHear at hF; split at hF <;> cases hF
  rename_i n b c act
  refine cast (rHear n b c act q).symm ?_
  have h4 : n = 0 ∨ n = 1 ∨ n = 2 ∨ n = 3 := by omega
  rcases act_cases act with rfl | rfl | rfl | rfl | ⟨e1, e2, e3, e4, n1, n2, n3, n4⟩
  case' inr.inr.inr.inr => simp only [e1, e2, e3, e4]; simp only [hearM, n1, n2, n3, n4, if_false] at hq
  all_goals
    rcases h4 with rfl | rfl | rfl | rfl <;> cases b <;> cases c <;> repeat' (first | exact hp | exact hq | (refine And.intro ?_ ?_) | decide)
abbrev GP3 : List (FuncId × En) := [(27, .det FRight), (76, .det FDo), (77, .det FHear)]
theorem gp3 : GSound Tryd.prog GP3 := gsound_det cRight (gsound_det cDo (gsound_det cHear gsound_nil))
theorem rBoth (n : Int) (b c : Bool) (m : Int) (d e : Bool) (act : Int) (q : AV → Prop) :
  (aCode Tryd.K GP3 Tryd.b78 (kRet Tryd.K Tryd.f78.results.toList q) ⟨[.ag [mkI .i64 n, mkB b, mkB c], .ag [mkI .i64 m, mkB d, mkB e], mkI .i64 act] ++ List.replicate (Tryd.f78.ntmps - 3) .jk, []⟩) = (
  (((0 : Int) ≤ n) ∧ (n ≤ (3 : Int))) ∧
  bcase ((Prod.snd (doM (sdOf n b c) act)) != (0 : Int)) (
   q (AV.tp [AV.ag [mkI .i64 (0 : Int), mkB false, mkB false], AV.ag [mkI .i64 (0 : Int), mkB false, mkB false], mkI .i64 (1 : Int)])) (
   (((0 : Int) ≤ m) ∧ (m ≤ (3 : Int))) ∧
   bcase (!(rightM (sdOf m d e))) (
    q (AV.tp [AV.ag [mkI .i64 (0 : Int), mkB false, mkB false], AV.ag [mkI .i64 (0 : Int), mkB false, mkB false], mkI .i64 (1 : Int)])) (
    bcase (!(St.tell (Prod.fst (doM (sdOf n b c) act)))) (
     q (AV.tp [AV.ag [mkI .i64 (Sd.sub (St.s (Prod.fst (doM (sdOf n b c) act)))), mkB (Sd.a (St.s (Prod.fst (doM (sdOf n b c) act)))), mkB (Sd.w (St.s (Prod.fst (doM (sdOf n b c) act))))], AV.ag [mkI .i64 m, mkB d, mkB e], mkI .i64 (0 : Int)])) (
     (((0 : Int) ≤ m) ∧ (m ≤ (3 : Int))) ∧
     bcase ((Prod.snd (hearM (sdOf m d e) act)) == (0 : Int)) (
      bcase (St.echo (Prod.fst (hearM (sdOf m d e) act))) (
       (((0 : Int) ≤ (Sd.sub (St.s (Prod.fst (doM (sdOf n b c) act))))) ∧ ((Sd.sub (St.s (Prod.fst (doM (sdOf n b c) act)))) ≤ (3 : Int))) ∧
       q (AV.tp [AV.ag [mkI .i64 (Sd.sub (St.s (Prod.fst (hearM (sdOf (Sd.sub (St.s (Prod.fst (doM (sdOf n b c) act)))) (Sd.a (St.s (Prod.fst (doM (sdOf n b c) act)))) (Sd.w (St.s (Prod.fst (doM (sdOf n b c) act))))) (2 : Int))))), mkB (Sd.a (St.s (Prod.fst (hearM (sdOf (Sd.sub (St.s (Prod.fst (doM (sdOf n b c) act)))) (Sd.a (St.s (Prod.fst (doM (sdOf n b c) act)))) (Sd.w (St.s (Prod.fst (doM (sdOf n b c) act))))) (2 : Int))))), mkB (Sd.w (St.s (Prod.fst (hearM (sdOf (Sd.sub (St.s (Prod.fst (doM (sdOf n b c) act)))) (Sd.a (St.s (Prod.fst (doM (sdOf n b c) act)))) (Sd.w (St.s (Prod.fst (doM (sdOf n b c) act))))) (2 : Int)))))], AV.ag [mkI .i64 (Sd.sub (St.s (Prod.fst (hearM (sdOf m d e) act)))), mkB (Sd.a (St.s (Prod.fst (hearM (sdOf m d e) act)))), mkB (Sd.w (St.s (Prod.fst (hearM (sdOf m d e) act))))], mkI .i64 (Prod.snd (hearM (sdOf (Sd.sub (St.s (Prod.fst (doM (sdOf n b c) act)))) (Sd.a (St.s (Prod.fst (doM (sdOf n b c) act)))) (Sd.w (St.s (Prod.fst (doM (sdOf n b c) act))))) (2 : Int)))])) (
       q (AV.tp [AV.ag [mkI .i64 (Sd.sub (St.s (Prod.fst (doM (sdOf n b c) act)))), mkB (Sd.a (St.s (Prod.fst (doM (sdOf n b c) act)))), mkB (Sd.w (St.s (Prod.fst (doM (sdOf n b c) act))))], AV.ag [mkI .i64 (Sd.sub (St.s (Prod.fst (hearM (sdOf m d e) act)))), mkB (Sd.a (St.s (Prod.fst (hearM (sdOf m d e) act)))), mkB (Sd.w (St.s (Prod.fst (hearM (sdOf m d e) act))))], mkI .i64 (Prod.snd (hearM (sdOf m d e) act))]))) (
      q (AV.tp [AV.ag [mkI .i64 (Sd.sub (St.s (Prod.fst (doM (sdOf n b c) act)))), mkB (Sd.a (St.s (Prod.fst (doM (sdOf n b c) act)))), mkB (Sd.w (St.s (Prod.fst (doM (sdOf n b c) act))))], AV.ag [mkI .i64 (Sd.sub (St.s (Prod.fst (hearM (sdOf m d e) act)))), mkB (Sd.a (St.s (Prod.fst (hearM (sdOf m d e) act)))), mkB (Sd.w (St.s (Prod.fst (hearM (sdOf m d e) act))))], mkI .i64 (Prod.snd (hearM (sdOf m d e) act))])))))) := by kernel_rfl
theorem rFit (n : Int) (b c : Bool) (m : Int) (d e : Bool) (q : AV → Prop) :
  (aCode Tryd.K GP1 Tryd.b28 (kRet Tryd.K Tryd.f28.results.toList q) ⟨[.ag [mkI .i64 n, mkB b, mkB c], .ag [mkI .i64 m, mkB d, mkB e]] ++ List.replicate (Tryd.f28.ntmps - 2) .jk, []⟩) = (
  (((0 : Int) ≤ n) ∧ (n ≤ (3 : Int))) ∧
  True ∧
  (((0 : Int) ≤ m) ∧ (m ≤ (3 : Int))) ∧
  True ∧
  bcase ((Sd.t (sdOf n b c)) == (Sd.f (sdOf m d e))) (
   (((0 : Int) ≤ m) ∧ (m ≤ (3 : Int))) ∧
   True ∧
   (((0 : Int) ≤ n) ∧ (n ≤ (3 : Int))) ∧
   True ∧
   bcase ((Sd.t (sdOf m d e)) == (Sd.f (sdOf n b c))) (
    bcase (b == e) (
     q (mkB (d == c))) (
     q (mkB false))) (
    q (mkB false))) (
   q (mkB false))) := by kernel_rfl
def FBoth : List AV → Option (Prop × AV) := fun al => match al with
  | [.ag [.d (.v (.int .i64 n)), .d (.v (.bool b)), .d (.v (.bool c))], .ag [.d (.v (.int .i64 m)), .d (.v (.bool d)), .d (.v (.bool e))], .d (.v (.int .i64 act))] =>
    some ((0 ≤ n ∧ n ≤ 3) ∧ (0 ≤ m ∧ m ≤ 3), .tp [mkSd (bothM (sdOf n b c) (sdOf m d e) act).1, mkSd (bothM (sdOf n b c) (sdOf m d e) act).2.1, mkI .i64 (bothM (sdOf n b c) (sdOf m d e) act).2.2])
  | _ => none
theorem cBoth : PSound Tryd.prog 78 (detE FBoth) := by
  refine det_fn (c := Tryd.b78) mixed Tryd.K_ok gp3 Tryd.func78 rfl rfl Tryd.call78 fun al p r q hF hp hq => ?_
  unfold FBoth at hF; split at hF <;> cases hF
  rename_i n b c m d e act
  simp only [List.length_cons, List.length_nil, Nat.zero_add, Nat.reduceAdd]
  refine cast (rBoth n b c m d e act q).symm ⟨hp.1, bcase_mk (fun h => ?_) (fun h => ⟨hp.2, bcase_mk (fun h2 => ?_) (fun h2 => bcase_mk (fun h3 => ?_) (fun h3 => ⟨hp.2, bcase_mk (fun h4 => bcase_mk (fun h5 => ⟨sub_in _, ?_⟩) (fun h5 => ?_)) (fun h4 => ?_)⟩))⟩)⟩
  · have e0 : bothM (sdOf n b c) (sdOf m d e) act = (Sd.zero, Sd.zero, 1) := by unfold bothM; rw [if_pos (.inl (by simpa using h))]
    rw [e0] at hq; exact hq
  · have e0 : bothM (sdOf n b c) (sdOf m d e) act = (Sd.zero, Sd.zero, 1) := by unfold bothM; rw [if_pos (.inr (by simpa using h2))]
    rw [e0] at hq; exact hq
  · have e0 : bothM (sdOf n b c) (sdOf m d e) act = ((doM (sdOf n b c) act).1.s, sdOf m d e, 0) := by
      unfold bothM
      rw [if_neg (by simp at h h2; simp [h, h2]), if_pos (by simpa using h3)]
    rw [e0] at hq
    simp only [mkSd, sdL, sub_of _ _ hp.2] at hq
    exact hq
  · have e0 : bothM (sdOf n b c) (sdOf m d e) act = ((hearM (doM (sdOf n b c) act).1.s 2).1.s, (hearM (sdOf m d e) act).1.s, (hearM (doM (sdOf n b c) act).1.s 2).2) := by
      unfold bothM
      rw [if_neg (by simp at h h2; simp [h, h2]), if_neg (by simpa using h3), if_pos ⟨by simpa using h4, by simpa using h5⟩]
    rw [e0] at hq
    simp only [sd_of]
    exact hq
  · have e0 : bothM (sdOf n b c) (sdOf m d e) act = ((doM (sdOf n b c) act).1.s, (hearM (sdOf m d e) act).1.s, (hearM (sdOf m d e) act).2) := by
      unfold bothM
      rw [if_neg (by simp at h h2; simp [h, h2]), if_neg (by simpa using h3), if_neg (by simp [h5])]
    rw [e0] at hq
    exact hq
  · have e0 : bothM (sdOf n b c) (sdOf m d e) act = ((doM (sdOf n b c) act).1.s, (hearM (sdOf m d e) act).1.s, (hearM (sdOf m d e) act).2) := by
      unfold bothM
      rw [if_neg (by simp at h h2; simp [h, h2]), if_neg (by simpa using h3), if_neg (by simp at h4; simp [h4])]
    rw [e0] at hq
    exact hq
def fitM (a b : Sd) : Bool := (a.t == b.f) && (b.t == a.f) && (a.a == b.w) && (b.a == a.w)
def FFit : List AV → Option (Prop × AV) := fun al => match al with
  | [.ag [.d (.v (.int .i64 n)), .d (.v (.bool b)), .d (.v (.bool c))], .ag [.d (.v (.int .i64 m)), .d (.v (.bool d)), .d (.v (.bool e))]] =>
    some ((0 ≤ n ∧ n ≤ 3) ∧ (0 ≤ m ∧ m ≤ 3), mkB (fitM (sdOf n b c) (sdOf m d e)))
  | _ => none
theorem cFit : PSound Tryd.prog 28 (detE FFit) := by
  refine det_fn (c := Tryd.b28) mixed Tryd.K_ok gp1 Tryd.func28 rfl rfl Tryd.call28 fun al p r q hF hp hq => ?_
  unfold FFit at hF; split at hF <;> cases hF
  rename_i n b c m d e
  simp only [List.length_cons, List.length_nil, Nat.zero_add, Nat.reduceAdd]
  refine cast (rFit n b c m d e q).symm ⟨hp.1, trivial, hp.2, trivial, bcase_mk (fun h => ⟨hp.2, trivial, hp.1, trivial, bcase_mk (fun h2 => bcase_mk (fun h3 => ?_) (fun h3 => ?_)) (fun h2 => ?_)⟩) (fun h => ?_)⟩
  · have e0 : fitM (sdOf n b c) (sdOf m d e) = (d == c) := by
      unfold fitM; rw [h, h2]; simp only [Bool.true_and]; rw [show ((sdOf n b c).a == (sdOf m d e).w) = true from h3]; rfl
    rw [e0] at hq; exact hq
  · have e0 : fitM (sdOf n b c) (sdOf m d e) = false := by
      unfold fitM; rw [show ((sdOf n b c).a == (sdOf m d e).w) = false from h3]; simp
    rw [e0] at hq; exact hq
  · have e0 : fitM (sdOf n b c) (sdOf m d e) = false := by unfold fitM; rw [h2]; simp
    rw [e0] at hq; exact hq
  · have e0 : fitM (sdOf n b c) (sdOf m d e) = false := by unfold fitM; rw [h]; simp
    rw [e0] at hq; exact hq
def wSub : ByteArray := ⟨#[115, 117, 98, 115, 99, 114, 105, 98, 101]⟩
def wSubd : ByteArray := ⟨#[115, 117, 98, 115, 99, 114, 105, 98, 101, 100]⟩
def wUns : ByteArray := ⟨#[117, 110, 115, 117, 98, 115, 99, 114, 105, 98, 101]⟩
def wUnsd : ByteArray := ⟨#[117, 110, 115, 117, 98, 115, 99, 114, 105, 98, 101, 100]⟩
theorem rTypes (q : AV → Prop) :
  (aCode Tryd.K [] Tryd.b75 (kRet Tryd.K Tryd.f75.results.toList q) ⟨[] ++ List.replicate Tryd.f75.ntmps .jk, []⟩) = (
  q (AV.d (.sl [[D.v (.string wSub)], [D.v (.string wSubd)], [D.v (.string wUns)], [D.v (.string wUnsd)]]))) := by kernel_rfl
def typesL : List ByteArray := [wSub, wSubd, wUns, wUnsd]
def ETypes : List AV → (AV → Prop) → Prop := fun al q => al = [] ∧ q (mkSS typesL)
theorem cTypes : PSound Tryd.prog 75 ETypes := by
  refine pure_fn (c := Tryd.b75) mixed Tryd.K_ok gsound_nil Tryd.func75 rfl rfl Tryd.call75 fun al q ⟨h, hq⟩ => ?_
  subst h
  exact cast (rTypes q).symm hq
theorem rName (a : Int) (q : AV → Prop) :
  (aCode Tryd.K [(75, .pure ETypes)] Tryd.b46 (kRet Tryd.K Tryd.f46.results.toList q) ⟨[mkI .i64 a] ++ List.replicate (Tryd.f46.ntmps - 1) .jk, []⟩) = (
  bcase (decide (a < (1 : Int))) (
   q (mkS (⟨#[]⟩ : ByteArray))) (
   bcase (decide (a > (4 : Int))) (
    q (mkS (⟨#[]⟩ : ByteArray))) (
    (([] : List AV) = []) ∧
    (((0 : Int) ≤ (IntKind.wrap .i64 (a - (1 : Int)))) ∧ ((IntKind.wrap .i64 (a - (1 : Int))) < (4 : Int))) ∧
    ((List.length (List.getD (strsD typesL) (Int.toNat (IntKind.wrap .i64 (a - (1 : Int)))) [])) = 1) ∧
    ((1 : Nat) ≤ (List.length (List.getD (strsD typesL) (Int.toNat (IntKind.wrap .i64 (a - (1 : Int)))) []))) ∧
    ((List.getD (List.getD (strsD typesL) (Int.toNat (IntKind.wrap .i64 (a - (1 : Int)))) []) (0 : Nat) d0) = (D.v (.string (strD (List.getD (List.getD (strsD typesL) (Int.toNat (IntKind.wrap .i64 (a - (1 : Int)))) []) (0 : Nat) d0))))) ∧
    q (mkS (strD (List.getD (List.getD (strsD typesL) (Int.toNat (IntKind.wrap .i64 (a - (1 : Int)))) []) (0 : Nat) d0)))))) := by kernel_rfl
def nameM (a : Int) : ByteArray := if a < 1 then ⟨#[]⟩ else if a > 4 then ⟨#[]⟩ else typesL.getD (a - 1).toNat ⟨#[]⟩
def FName : List AV → Option (Prop × AV) := fun al => match al with
  | [.d (.v (.int .i64 a))] => some (True, mkS (nameM a))
  | _ => none
theorem cName : PSound Tryd.prog 46 (detE FName) := by
  refine det_fn (c := Tryd.b46) mixed Tryd.K_ok (gsound_pure cTypes gsound_nil) Tryd.func46 rfl rfl Tryd.call46 fun al p r q hF hp hq => ?_
  unfold FName at hF; split at hF <;> cases hF
  rename_i a
  refine cast (rName a q).symm ?_
  rcases act_cases a with rfl | rfl | rfl | rfl | ⟨_, _, _, _, n1, n2, n3, n4⟩
  · exact ⟨rfl, ⟨by decide, by decide⟩, rfl, by decide, rfl, hq⟩
  · exact ⟨rfl, ⟨by decide, by decide⟩, rfl, by decide, rfl, hq⟩
  · exact ⟨rfl, ⟨by decide, by decide⟩, rfl, by decide, rfl, hq⟩
  · exact ⟨rfl, ⟨by decide, by decide⟩, rfl, by decide, rfl, hq⟩
  · refine bcase_dec (fun h => ?_) (fun h => bcase_dec (fun h2 => ?_) (fun h2 => absurd h2 (by omega)))
    · unfold nameM at hq; rw [if_pos h] at hq; exact hq
    · unfold nameM at hq; rw [if_neg h, if_pos h2] at hq; exact hq
end Go.Proofs.YtldcalmoboeeiaaDoor
