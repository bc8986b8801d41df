import Derived.Test.YtchpfeblinnoiaaGreatDoorTagsPre
import Derived.Test.YtchpfeblinnoiaaGreatDoorTrWr3
import Derived.Test.YtchpfeblinnoiaaGreatDoorAmBun
set_option linter.unusedSimpArgs false
set_option linter.unusedVariables false
namespace Go.Proofs.YtchpfeblinnoiaaGreatDoor
open Go Go.AM Go.RowKit
def trimB (s : ByteArray) : ByteArray := ⟨(Lib.trimS s.data.toList sBlanks.data.toList).toArray⟩
theorem trimB_size (s : ByteArray) : (trimB s).size ≤ s.size := by
  show (List.toArray _).size ≤ _
  have e : s.data.toList.length = s.size := Array.length_toList
  rw [List.size_toArray, ← e]
  unfold Lib.trimS
  first | exact Nat.le_trans (trimR_len _ _) (trimL_len _ _) | exact Nat.le_trans (trimL_len _ _) (trimR_len _ _)
def FTrim : List AV → Option (Prop × AV) := fun al => match al with
  | [.d (.v (.string s)), .d (.v (.string c))] => some (c = sBlanks, mkS (trimB s))
  | _ => none
theorem cTrim : PSound Tryz.prog 61 (detE FTrim) := by
  refine ps2 Tryz.call61 fun al q h => ?_
  unfold detE at h
  split at h
  · rename_i p r hF
    unfold FTrim at hF; split at hF <;> cases hF
    rename_i s c
    obtain ⟨rfl, hq⟩ := h
    refine ⟨_, _, rfl, fun p0 _ w => ?_⟩
    have hs : s.size ≤ LIM := by simpa [plainV] using p0
    exact (Any.strings_Trim_ascii Tryz.lays160 zeroSet (by kernel_rfl) s sBlanks w (Nat.le_trans hs (by decide)) (by decide) blanks_ascii).mono fun e w' ⟨h1, h2⟩ => ⟨_, _, h1, hq, fun X => mkS_rel (Nat.le_trans (trimB_size s) hs), h2⟩
  · exact h.elim
structure El where
  name : ByteArray
  attrs : List (List D)
  text : ByteArray
  kids : List (List D)
structure St where
  op : List El
  cnt : Int
  ov : Bool
  err : Int
structure TokA where
  kind : Int
  name : ByteArray
  attrs : List (List D)
  text : ByteArray
abbrev tokV (t : TokA) : AV := .ag [mkI .i64 t.kind, mkS t.name, .d (.sl t.attrs), mkS t.text]
noncomputable abbrev GTk : List (FuncId × En) := [(59, .det FCl), (61, .det FTrim)]
theorem gTk : GSound Tryz.prog GTk := gsound_det cClD (gsound_det cTrim gsound_nil)
noncomputable abbrev GTkI : List (FuncId × En) := inlΓS Tryz.K GTk tabI 4 8
theorem gTkI : GSound Tryz.prog GTkI := inlS_sound mixed Tryz.K_ok gTk tabI_ok 8
end Go.Proofs.YtchpfeblinnoiaaGreatDoor

namespace Go.Proofs.YtchpfeblinnoiaaGreatDoor
open Go Go.AM Go.RowKit
inductive Ev where
  | no
  | head (n : ByteArray) (a : List (List D))
  | item (e : El)
  | foot
def Ev.av : Ev → AV
  | .no => .ag [mkI .i64 0, mkS ⟨#[]⟩, .nl, mkS ⟨#[]⟩, .nl]
  | .head n a => .ag [mkI .i64 1, mkS n, .d (.sl a), mkS ⟨#[]⟩, .nl]
  | .item e => .ag [mkI .i64 2, mkS e.name, .d (.sl e.attrs), mkS e.text, .d (.sl (e.kids.take e.kids.length))]
  | .foot => .ag [mkI .i64 3, mkS ⟨#[]⟩, .nl, mkS ⟨#[]⟩, .nl]
def zeroE : List D := [.v (.string ⟨#[]⟩), .sl [], .v (.string ⟨#[]⟩), .sl []]
def elV (e : El) : List D := [.v (.string e.name), .sl e.attrs, .v (.string e.text), .sl (e.kids.take e.kids.length)]
def bump (e : El) : El := ⟨e.name, e.attrs, e.text, e.kids ++ [zeroE]⟩
def setKid (d : List D) (e : El) : El := ⟨e.name, e.attrs, e.text, e.kids.set (Int.toNat (IntKind.wrap .i64 ((e.kids.length : Int) - 1))) d⟩
def addText (x : ByteArray) (e : El) : El := ⟨e.name, e.attrs, e.text ++ x, e.kids⟩
def newE0 (t : TokA) : El := ⟨t.name, t.attrs, ⟨#[]⟩, []⟩
def onLast (f : El → El) : List El → List El
  | [] => []
  | e :: l => match l with
    | [] => [f e]
    | _ :: _ => e :: onLast f l
def lastE : List El → El
  | [] => ⟨⟨#[]⟩, [], ⟨#[]⟩, []⟩
  | e :: l => match l with
    | [] => e
    | _ :: _ => lastE l
def neqB (a b : ByteArray) : Bool := !(decide (a = b))
theorem neqT {a b : ByteArray} {i : Decidable (a = b)} (h : (!(@decide (a = b) i)) = true) : neqB a b = true := by
  unfold neqB
  simp only [Bool.not_eq_true', decide_eq_false_iff_not] at h ⊢
  exact h
theorem neqF {a b : ByteArray} {i : Decidable (a = b)} (h : (!(@decide (a = b) i)) = false) : neqB a b = false := by
  unfold neqB
  simp only [Bool.not_eq_false', decide_eq_true_eq] at h ⊢
  exact h
def failM (s : St) (c e : Int) : St × Ev × Bool × Int := (⟨s.op, c, s.ov, e⟩, .no, false, e)
def popM (s : St) (c : Int) : St × Ev × Bool × Int := match s.op.dropLast with
  | [r] => (⟨[r], c, s.ov, 0⟩, .item (lastE s.op), true, 0)
  | r => (⟨onLast (setKid (elV (lastE s.op))) r, c, s.ov, 0⟩, .no, false, 0)
def oneM (s : St) (t : TokA) (e : El) : St × Ev × Bool × Int :=
  bif t.kind == 1 then (⟨[e, newE0 t], IntKind.wrap .i64 (0 + 1), s.ov, 0⟩, .no, false, 0) else
  bif t.kind == 2 then (bif neqB e.name t.name then failM s (IntKind.wrap .i64 (0 + 1)) 3 else (⟨[], IntKind.wrap .i64 (0 + 1), true, 0⟩, .foot, true, 0)) else
  bif neqB (trimB t.text) ⟨#[]⟩ then failM s (IntKind.wrap .i64 (0 + 1)) 3 else (⟨[e], IntKind.wrap .i64 (0 + 1), s.ov, 0⟩, .no, false, 0)
def manyM (s : St) (t : TokA) : St × Ev × Bool × Int :=
  bif decide (IntKind.wrap .i64 (s.cnt + 1) > 64) then failM s (IntKind.wrap .i64 (s.cnt + 1)) 4 else
  bif t.kind == 1 then
    bif decide (s.op.length > 4) then failM s (IntKind.wrap .i64 (s.cnt + 1)) 5 else
    bif ((lastE s.op).kids.length : Int) == 16 then failM s (IntKind.wrap .i64 (s.cnt + 1)) 4 else
    (⟨onLast bump s.op ++ [newE0 t], IntKind.wrap .i64 (s.cnt + 1), s.ov, 0⟩, .no, false, 0)
  else bif t.kind == 2 then
    bif neqB (lastE s.op).name t.name then failM s (IntKind.wrap .i64 (s.cnt + 1)) 3 else popM s (IntKind.wrap .i64 (s.cnt + 1))
  else (⟨onLast (addText t.text) s.op, IntKind.wrap .i64 (s.cnt + 1), s.ov, 0⟩, .no, false, 0)
def takeM (s : St) (t : TokA) : St × Ev × Bool × Int :=
  bif s.err != 0 then (s, .no, false, s.err) else
  bif s.ov then failM s s.cnt 3 else
  bif decide (t.kind < 1) then failM s s.cnt 3 else
  bif decide (t.kind > 3) then failM s s.cnt 3 else
  match s.op with
  | [] => bif t.kind != 1 then failM s s.cnt 3 else (⟨[newE0 t], IntKind.wrap .i64 (s.cnt + 1), s.ov, 0⟩, .head t.name t.attrs, true, 0)
  | e :: l => match l with
    | [] => oneM s t e
    | _ :: _ => manyM s t
def resA (x : St × Ev × Bool × Int) : AV := .tp [x.2.1.av, mkB x.2.2.1, mkI .i64 x.2.2.2]
def bldE : Nat → List El → List Ob
  | _, [] => []
  | i, e :: l => .box [mkS e.name, .d (.sl e.attrs), mkS e.text, .vw (i + 1) e.kids.length] :: .row 4 e.kids :: bldE (i + 2) l
def refsE : Nat → List El → List AV
  | _, [] => []
  | i, _ :: l => .rf i 0 :: refsE (i + 2) l
def bldL (s : St) : List Ob := .box [.vw 1 s.op.length, mkI .i64 s.cnt, mkB s.ov, mkI .i64 s.err] :: .pow (refsE 2 s.op) :: bldE 2 s.op
def expO (s : St) : List Ob := .box [.vw 2 s.op.length, mkI .i64 s.cnt, mkB s.ov, mkI .i64 s.err] :: .gh [.rf 0 0] :: .pow (refsE 3 s.op) :: bldE 3 s.op
abbrev bunS (s : St) : List Ob := [.bun (repOf (bldL s)), .gh [.rf 0 0]]
structure OkT (s : St) (t : TokA) : Prop where
  ats : ∀ c ∈ t.attrs, c.length = 2
  tx : ∀ e ∈ s.op, e.text.size + t.text.size ≤ LIM
  k16 : ∀ e ∈ s.op, e.kids.length ≤ 16
  k4 : ∀ e ∈ s.op, ∀ c ∈ e.kids, c.length = 4
  par : ∀ (i : Nat) (h : i + 1 < s.op.length), 1 ≤ i → s.op[i].kids ≠ []
  len : s.op.length ≤ 5
def packS (js : List Nat) (s : S) : S := ((s.packG (some 0 :: some 1 :: js.map some)).bundle 0 (List.range' 2 js.length)).packG [some 0, some 1]
def okPack1 (js : List Nat) (s : S) : Bool := (match s.o[0]? with | some ob => ob.root | none => false) && packOK (0 :: js) s.o && (bunO 0 js s.o).all Ob.firmO && packGOK [some 0, some 1] (s.bundle 0 js).o
def okPack (js : List Nat) (s : S) : Bool := packGOK (some 0 :: some 1 :: js.map some) s.o && okPack1 (List.range' 2 js.length) (s.packG (some 0 :: some 1 :: js.map some))
theorem weak_packS {js : List Nat} {s : S} (h : okPack js s = true) : Weak s (packS js s) := by
  unfold okPack okPack1 at h
  simp only [Bool.and_eq_true] at h
  exact (weak_packG _ h.1).trans ((weak_bun h.2.1.1.1 h.2.1.1.2 h.2.1.2).trans (weak_packG _ h.2.2))
theorem leafG {q : AV → List Ob → Prop} {av : AV} {o : List Ob} (s2 : S) (w : Weak ⟨[av], o⟩ s2) (js : List Nat) (h : okPack js s2 = true) {av2 : AV} {o2 : List Ob} (e : packS js s2 = ⟨[av2], o2⟩) (hq : q av2 o2) : trimW q av o :=
  ⟨av2, o2, w.trans (e ▸ weak_packS h), hq⟩
theorem leafP {q : AV → List Ob → Prop} {av : AV} {o : List Ob} (js : List Nat) {av2 : AV} {o2 : List Ob} (hq : q av2 o2) (h : okPack js ⟨[av], o⟩ = true) (e : packS js ⟨[av], o⟩ = ⟨[av2], o2⟩) : trimW q av o := leafG _ (Weak.refl _) js h e hq
theorem leafO {q : AV → List Ob → Prop} {av : AV} {o : List Ob} (i : Nat) (js : List Nat) {av2 : AV} {o2 : List Ob} (hq : q av2 o2) (h : okPack js (S.openB ⟨[av], o⟩ i 3 4) = true) (e : packS js (S.openB ⟨[av], o⟩ i 3 4) = ⟨[av2], o2⟩) : trimW q av o := leafG _ (weak_openB _ i 3 4 (by decide)) js h e hq
theorem leafS {q : AV → List Ob → Prop} {av : AV} {o : List Ob} (r : Nat) (js : List Nat) {av2 : AV} {o2 : List Ob} (hq : q av2 o2) (h : okPack js (sealAll [r] ⟨[av], o⟩) = true) (e : packS js (sealAll [r] ⟨[av], o⟩) = ⟨[av2], o2⟩) : trimW q av o := leafG _ (weak_seal _ [r]) js h e hq
theorem wrap_pred {n : Nat} (h : 1 ≤ n) (h2 : n ≤ 16) : IntKind.wrap .i64 ((n : Int) - 1) = ((n - 1 : Nat) : Int) := by
  rw [IntWalk.i64_in _ (by omega)]
  omega
theorem par_ok1 {l : List (List D)} (h : l ≠ []) (h2 : l.length ≤ 16) : 0 ≤ IntKind.wrap .i64 ((l.length : Int) - 1) ∧ IntKind.wrap .i64 ((l.length : Int) - 1) < (l.length : Int) := by
  have := List.length_pos_iff.2 h
  rw [wrap_pred (by omega) h2]
  omega
theorem par_ok2 {l : List (List D)} (h : l ≠ []) (h2 : l.length ≤ 16) (h4 : ∀ c ∈ l, c.length = 4) : Int.toNat (IntKind.wrap .i64 ((l.length : Int) - 1)) < l.length ∧ 0 + 4 ≤ (l.getD (Int.toNat (IntKind.wrap .i64 ((l.length : Int) - 1))) []).length := by
  have := List.length_pos_iff.2 h
  rw [wrap_pred (by omega) h2]
  have hlt : l.length - 1 < l.length := by omega
  refine ⟨by simpa using hlt, ?_⟩
  simp only [Int.toNat_natCast, List.getD_eq_getElem?_getD, List.getElem?_eq_getElem hlt, Option.getD_some]
  rw [h4 _ (List.getElem_mem hlt)]
  omega
end Go.Proofs.YtchpfeblinnoiaaGreatDoor
