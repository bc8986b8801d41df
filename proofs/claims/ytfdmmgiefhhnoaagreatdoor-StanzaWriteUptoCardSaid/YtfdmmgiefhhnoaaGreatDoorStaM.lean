import Derived.Test.YtfdmmgiefhhnoaaGreatDoorBindAddr
import Derived.Test.YtfdmmgiefhhnoaaGreatDoorTagsLib
import Derived.Lib.Itoa
set_option linter.unusedSimpArgs false
set_option linter.unusedVariables false
namespace Go.Proofs.YtfdmmgiefhhnoaaGreatDoor
open Go Go.AM Go.RowKit
abbrev BA := ByteArray
abbrev At := BA × BA
inductive El where
  | mk (n : BA) (ats : List At) (t : BA) (ks : List El)
def El.n : El → BA | .mk n _ _ _ => n
def El.ats : El → List At | .mk _ a _ _ => a
def El.t : El → BA | .mk _ _ t _ => t
def El.ks : El → List El | .mk _ _ _ k => k
theorem El.n_mk (n : BA) (a : List At) (t : BA) (k : List El) : (El.mk n a t k).n = n := rfl
theorem El.ats_mk (n : BA) (a : List At) (t : BA) (k : List El) : (El.mk n a t k).ats = a := rfl
theorem El.t_mk (n : BA) (a : List At) (t : BA) (k : List El) : (El.mk n a t k).t = t := rfl
theorem El.ks_mk (n : BA) (a : List At) (t : BA) (k : List El) : (El.mk n a t k).ks = k := rfl
structure It where
  c : BA
  n : BA
  s : Int
  a : Bool
  deriving DecidableEq
structure Sz where
  kind : Int := 0
  ty : BA := ⟨#[]⟩
  id : BA := ⟨#[]⟩
  from_ : BA := ⟨#[]⟩
  to_ : BA := ⟨#[]⟩
  show_ : BA := ⟨#[]⟩
  tok : BA := ⟨#[]⟩
  rea : BA := ⟨#[]⟩
  h : Int := 0
  ver : Int := 0
  rem : Bool := false
  its : List It := []
  deriving DecidableEq
def decS (n : Nat) : BA := ⟨(Lib.decDigits n).toArray⟩
def digB (c : UInt8) : Nat := (c.toNat + 208) % 256
def readGo : List UInt8 → Nat → Option Nat
  | [], n => some n
  | c :: l, n => if 9 < digB c ∨ 4294967295 < 10 * n + digB c then none else readGo l (10 * n + digB c)
def readN (s : BA) : Option Nat := match readGo s.data.toList 0 with
  | some n => if decS n = s then some n else none
  | none => none
def numOf (s : BA) : Int := ((readN s).getD 0 : Nat)
def wordB (s : BA) : Bool := decide (1 ≤ s.size) && decide (s.size ≤ 40) && rightB s
def addrE (s : BA) : Bool := decide (s = ⟨#[]⟩) || addrB s
def placeB (s : BA) : Bool := !decide (s = ⟨#[]⟩) && addrE s
def numB (s : BA) : Bool := match readN s with
  | some n => decide (1 ≤ n) && decide (n ≤ 1000000)
  | none => false
def cntB (s : BA) : Bool := (readN s).isSome
def oneB (l : List BA) (s : BA) : Bool := memB s l
abbrev Tst := List (BA × (BA → Bool))
def lkT (k : BA) : Tst → Option (BA → Bool)
  | [] => none
  | (x, p) :: l => if x = k then some p else lkT k l
def atOk (must may : Tst) (a : At) : Bool := match lkT a.1 must with
  | some p => p a.2
  | none => match lkT a.1 may with
    | some p => p a.2
    | none => false
def inM (must : Tst) (a : At) : Bool := (lkT a.1 must).isSome
def fitsM (must may : Tst) (ats : List At) : Bool := ats.all (atOk must may) && decide (ats.map Prod.fst).Nodup && (ats.countP (inM must) == must.length)
def valueM (ats : List At) (k : BA) : BA := ((ats.find? fun a => decide (a.1 = k)).map Prod.snd).getD ⟨#[]⟩
def w (l : List UInt8) : BA := ⟨l.toArray⟩
def kId : BA := ⟨#[105, 100]⟩
def kH : BA := ⟨#[104]⟩
def kPrev : BA := ⟨#[112, 114, 101, 118, 105, 100]⟩
def kType : BA := ⟨#[116, 121, 112, 101]⟩
def kFrom : BA := ⟨#[102, 114, 111, 109]⟩
def kTo : BA := ⟨#[116, 111]⟩
def kJid : BA := ⟨#[106, 105, 100]⟩
def kName : BA := ⟨#[110, 97, 109, 101]⟩
def kSub : BA := ⟨#[115, 117, 98, 115, 99, 114, 105, 112, 116, 105, 111, 110]⟩
def kAsk : BA := ⟨#[97, 115, 107]⟩
def kVer : BA := ⟨#[118, 101, 114]⟩
def sBoth : BA := ⟨#[98, 111, 116, 104]⟩
def sRemove : BA := ⟨#[114, 101, 109, 111, 118, 101]⟩
def sSubscribe : BA := ⟨#[115, 117, 98, 115, 99, 114, 105, 98, 101]⟩
def sSubscribed : BA := ⟨#[115, 117, 98, 115, 99, 114, 105, 98, 101, 100]⟩
def sUnsub : BA := ⟨#[117, 110, 115, 117, 98, 115, 99, 114, 105, 98, 101]⟩
def sUnsubd : BA := ⟨#[117, 110, 115, 117, 98, 115, 99, 114, 105, 98, 101, 100]⟩
def sUnav : BA := ⟨#[117, 110, 97, 118, 97, 105, 108, 97, 98, 108, 101]⟩
def sAway : BA := ⟨#[97, 119, 97, 121]⟩
def sChat : BA := ⟨#[99, 104, 97, 116]⟩
def sDnd : BA := ⟨#[100, 110, 100]⟩
def sXa : BA := ⟨#[120, 97]⟩
def sShow : BA := ⟨#[115, 104, 111, 119]⟩
def sItem : BA := ⟨#[105, 116, 101, 109]⟩
def sQuery : BA := ⟨#[113, 117, 101, 114, 121]⟩
def sError : BA := ⟨#[101, 114, 114, 111, 114]⟩
def sGet : BA := ⟨#[103, 101, 116]⟩
def sSet : BA := ⟨#[115, 101, 116]⟩
def sResult : BA := ⟨#[114, 101, 115, 117, 108, 116]⟩
def sPresence : BA := ⟨#[112, 114, 101, 115, 101, 110, 99, 101]⟩
def sIq : BA := ⟨#[105, 113]⟩
def sEnable : BA := ⟨#[101, 110, 97, 98, 108, 101]⟩
def sEnabled : BA := ⟨#[101, 110, 97, 98, 108, 101, 100]⟩
def sR : BA := ⟨#[114]⟩
def sA : BA := ⟨#[97]⟩
def sResume : BA := ⟨#[114, 101, 115, 117, 109, 101]⟩
def sResumed : BA := ⟨#[114, 101, 115, 117, 109, 101, 100]⟩
def sFailed : BA := ⟨#[102, 97, 105, 108, 101, 100]⟩
def sActive : BA := ⟨#[97, 99, 116, 105, 118, 101]⟩
def sInactive : BA := ⟨#[105, 110, 97, 99, 116, 105, 118, 101]⟩
def typesB : BA → Bool := oneB [sUnav, sSubscribe, sSubscribed, sUnsub, sUnsubd]
def showsB : BA → Bool := oneB [sAway, sChat, sDnd, sXa]
def statesB (set : Bool) : BA → Bool := if set then oneB [kTo, kFrom, sBoth, sRemove] else oneB [kTo, kFrom, sBoth]
def shId : Tst := [(kId, wordB)]
def shH : Tst := [(kH, cntB)]
def shBoth : Tst := [(kH, cntB), (kPrev, wordB)]
def shPres : Tst := [(kType, typesB), (kFrom, placeB), (kTo, placeB)]
def shItem (set : Bool) : Tst := [(kName, wordB), (kSub, statesB set), (kAsk, oneB [sSubscribe])]
def plainsM (n : BA) : Option (Int × Tst) :=
  if n = sEnable then some (6, []) else if n = sR then some (8, []) else if n = sFailed then some (12, []) else if n = sActive then some (13, []) else if n = sInactive then some (14, [])
  else if n = sEnabled then some (7, shId) else if n = sA then some (9, shH) else if n = sResume then some (10, shBoth) else if n = sResumed then some (11, shBoth) else none
def zS : Sz := {}
def simpleM (k : Int) (must : Tst) (e : El) : Sz × Int :=
  if fitsM must [] e.ats && decide (e.t = ⟨#[]⟩) && e.ks.isEmpty then ({ kind := k, h := numOf (valueM e.ats kH), tok := if k = 7 then valueM e.ats kId else valueM e.ats kPrev }, 0) else (zS, 3)
def presM (e : El) : Sz × Int :=
  if fitsM [] shPres e.ats && decide (e.t = ⟨#[]⟩) then match e.ks with
    | [] => ({ kind := 1, ty := valueM e.ats kType, from_ := valueM e.ats kFrom, to_ := valueM e.ats kTo }, 0)
    | [k] => if decide (valueM e.ats kType = ⟨#[]⟩) && decide (k.n = sShow) && showsB k.t && k.ats.isEmpty && k.ks.isEmpty then ({ kind := 1, ty := valueM e.ats kType, from_ := valueM e.ats kFrom, to_ := valueM e.ats kTo, show_ := k.t }, 0) else (zS, 3)
    | _ => (zS, 3)
  else (zS, 3)
def subM (s : BA) : Int := if s = kTo then 1 else if s = kFrom then 2 else if s = sBoth then 3 else 0
def itemM (set : Bool) (e : El) : Option (It × Bool) :=
  if decide (e.n = sItem) && fitsM [(kJid, userB)] (shItem set) e.ats && decide (e.t = ⟨#[]⟩) && e.ks.isEmpty then
    some (⟨valueM e.ats kJid, valueM e.ats kName, subM (valueM e.ats kSub), !decide (valueM e.ats kAsk = ⟨#[]⟩)⟩, decide (valueM e.ats kSub = sRemove))
  else none
def itemsGo (set : Bool) : List El → Option (List It × Bool)
  | [] => some ([], false)
  | k :: l => match itemM set k with
    | some (x, r) => match itemsGo set l with
      | some (xs, rs) => some (x :: xs, r || rs)
      | none => none
    | none => none
def askedM (kind : Int) (id : BA) (q : El) : Option Sz :=
  if decide (q.n = sQuery) && fitsM [] [(kVer, numB)] q.ats && decide (q.t = ⟨#[]⟩) && decide (q.ks.length ≤ 16) then match itemsGo (kind == 3) q.ks with
    | some (xs, r) => if (if kind = 2 then xs.length == 0 else if kind = 3 then xs.length == 1 else decide (0 < numOf (valueM q.ats kVer))) then some { kind := kind, id := id, ver := numOf (valueM q.ats kVer), its := xs, rem := r } else none
    | none => none
  else none
def kindM (s : BA) : Option Int := if s = sGet then some 2 else if s = sSet then some 3 else if s = sResult then some 4 else if s = sError then some 5 else none
def iqM (e : El) : Sz × Int := match kindM (valueM e.ats kType) with
  | none => (zS, 6)
  | some kind =>
    if fitsM [(kType, wordB), (kId, wordB)] [] e.ats && decide (e.t = ⟨#[]⟩) then match e.ks with
      | [] => if kind = 4 then ({ kind := kind, id := valueM e.ats kId }, 0) else (zS, 3)
      | [k] => if kind = 5 then (if decide (k.n = sError) && wordB k.t && k.ats.isEmpty && k.ks.isEmpty then ({ kind := kind, id := valueM e.ats kId, rea := k.t }, 0) else (zS, 3))
        else match askedM kind (valueM e.ats kId) k with
          | some s => (s, 0)
          | none => (zS, 3)
      | _ => (zS, 3)
    else (zS, 3)
def readM (e : El) : Sz × Int :=
  if e.n = sPresence then presM e else if e.n = sIq then iqM e else match plainsM e.n with
    | some (k, must) => simpleM k must e
    | none => (zS, 6)
end Go.Proofs.YtfdmmgiefhhnoaaGreatDoor
