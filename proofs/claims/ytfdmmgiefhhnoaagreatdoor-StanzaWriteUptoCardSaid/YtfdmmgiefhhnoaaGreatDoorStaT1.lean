import Derived.Test.YtfdmmgiefhhnoaaGreatDoorStaM
import Derived.Test.YtfdmmgiefhhnoaaGreatDoorBindLib
import Derived.Test.YtfdmmgiefhhnoaaGreatDoorAmPart
set_option linter.unusedSimpArgs false
set_option linter.unusedVariables false
namespace Go.Proofs.YtfdmmgiefhhnoaaGreatDoor
open Go Go.AM Go.RowKit
abbrev REnt := List AV → List Ob → (AV → List Ob → Prop) → Prop
def strF (p : BA → Bool) : List AV → Option (Prop × AV) := fun al => match al with
  | [.d (.v (.string s))] => some (s.size ≤ LIM, mkB (p s))
  | _ => none
noncomputable abbrev KS : TypeId → Option TK := runK (symK Tryz.K [94])
theorem KS_ok : KOk Tryz.prog KS := runK_ok (symK_ok Tryz.K_ok _)
def atD (a : At) : List D := [.v (.string a.1), .v (.string a.2)]
def atsD (l : List At) : List (List D) := l.map atD
mutual
def elD : El → List D
  | .mk n a t k => [.v (.string n), .sl (atsD a), .v (.string t), .sl (ksD k)]
def ksD : List El → List (List D)
  | [] => []
  | e :: l => elD e :: ksD l
end
def elV (e : El) : AV := .ag [mkS e.n, .d (.sl (atsD e.ats)), mkS e.t, .d (.sl (ksD e.ks))]
def fnV (f : FuncId) : AV := .fn (.func f) [] []
def nilM : AV := .d (.v (.map none))
theorem atsD_len (l : List At) : (atsD l).length = l.length := by simp [atsD]
theorem atsD_getD (l : List At) (n : Nat) (h : n < l.length) : (atsD l).getD n [] = atD l[n] := by
  simp [atsD, List.getD_eq_getElem?_getD, h]
theorem ksD_eq : ∀ l : List El, ksD l = l.map elD
  | [] => by simp [ksD]
  | e :: l => by simp [ksD, ksD_eq l]
theorem ksD_len (l : List El) : (ksD l).length = l.length := by simp [ksD_eq]
theorem ksD_getD (l : List El) (n : Nat) (h : n < l.length) : (ksD l).getD n [] = elD l[n] := by
  simp [ksD_eq, List.getD_eq_getElem?_getD, h]
def atsFit (l : List At) : Prop := ∀ a ∈ l, a.1.size ≤ LIM ∧ a.2.size ≤ LIM
def seenE (l : List At) : List (Key × AV) := l.map fun a => (Key.s a.1, mkB true)
theorem seen_get (l : List At) (a : BA) : getO (Key.s a) (seenE l) (mkB false) = mkB (memB a (l.map Prod.fst)) := by
  induction l with
  | nil => rfl
  | cons x l ih =>
    unfold getO seenE at ih ⊢
    rw [List.map_cons, findKeyA]
    by_cases h : x.1 = a
    · subst h; simp [memB]
    · have h2 : ¬ (Key.s x.1 = Key.s a) := fun e => h (by injection e)
      rw [if_neg h2, ih]
      simp [memB, h]
theorem seen_set {l : List At} {a : At} (h : a.1 ∉ l.map Prod.fst) : setKeyA (Key.s a.1) (mkB true) (seenE l) = seenE (l ++ [a]) := by
  induction l with
  | nil => rfl
  | cons x l ih =>
    rw [List.map_cons, List.mem_cons, not_or] at h
    have h2 : ¬ (Key.s x.1 = Key.s a.1) := fun e => h.1 (by injection e with e; exact e.symm)
    show setKeyA (Key.s a.1) (mkB true) ((Key.s x.1, mkB true) :: seenE l) = (Key.s x.1, mkB true) :: seenE (l ++ [a])
    rw [setKeyA, if_neg h2, ih h.2]
structure FI (must may : Tst) (l : List At) (n : Nat) : Prop where
  le : n ≤ l.length
  ok : ∀ a ∈ l.take n, atOk must may a = true
  nd : ((l.take n).map Prod.fst).Nodup
def leftN (must : Tst) (l : List At) (n : Nat) : Int := (must.length : Int) - ((l.take n).countP (inM must) : Nat)
theorem fi_zero (must may : Tst) (l : List At) : FI must may l 0 := ⟨Nat.zero_le _, by simp, by simp⟩
theorem take_snoc {l : List At} {n : Nat} (h : n < l.length) : l.take (n + 1) = l.take n ++ [l[n]] := by rw [List.take_add_one, List.getElem?_eq_getElem h]; rfl
theorem fi_next {must may : Tst} {l : List At} {n : Nat} (hi : FI must may l n) (h : n < l.length) (ho : atOk must may l[n] = true) (hd : l[n].1 ∉ (l.take n).map Prod.fst) : FI must may l (n + 1) := by
  refine ⟨h, fun a ha => ?_, ?_⟩
  · rw [take_snoc h] at ha
    rcases List.mem_append.1 ha with ha | ha
    · exact hi.ok a ha
    · rw [List.mem_singleton.1 ha]; exact ho
  · rw [take_snoc h, List.map_append, List.nodup_append]
    refine ⟨hi.nd, by simp, fun x hx y hy => ?_⟩
    have hy : y = l[n].1 := by simpa using hy
    intro e; exact hd (by rw [← hy, ← e]; exact hx)
theorem f_bad {must may : Tst} {l : List At} {n : Nat} (h : n < l.length) (hb : atOk must may l[n] = false) : fitsM must may l = false := by
  have : l.all (atOk must may) = false := by
    rw [Bool.eq_false_iff]; intro hh
    rw [List.all_eq_true.1 hh _ (List.getElem_mem h)] at hb; cases hb
  simp [fitsM, this]
theorem f_dup {must may : Tst} {l : List At} {n : Nat} (h : n < l.length) (hd : l[n].1 ∈ (l.take n).map Prod.fst) : fitsM must may l = false := by
  have : ¬ (l.map Prod.fst).Nodup := fun hn => by
    rw [← List.take_append_drop n l, List.map_append, List.nodup_append] at hn
    refine hn.2.2 _ hd l[n].1 ?_ rfl
    rw [List.drop_eq_getElem_cons h, List.map_cons]; exact List.mem_cons_self
  simp [fitsM, this]
theorem f_end {must may : Tst} {l : List At} (hi : FI must may l l.length) : fitsM must may l = (leftN must l l.length == 0) := by
  have h1 : l.all (atOk must may) = true := List.all_eq_true.2 fun a ha => hi.ok a (by rw [List.take_length]; exact ha)
  have h2 : (l.map Prod.fst).Nodup := by have := hi.nd; rwa [List.take_length] at this
  unfold fitsM leftN
  rw [h1, List.take_length]
  simp only [h2, decide_true, Bool.and_true, Bool.true_and]
  rw [Bool.eq_iff_iff]
  simp only [beq_iff_eq]
  omega
theorem left_hit {must : Tst} {l : List At} {n : Nat} (h : n < l.length) (hm : inM must l[n] = true) (hl : l.length ≤ LIM) (hs : must.length ≤ 8) : IntKind.wrap .i64 (leftN must l n - 1) = leftN must l (n + 1) := by
  have e : (l.take (n + 1)).countP (inM must) = (l.take n).countP (inM must) + 1 := by
    rw [take_snoc h, List.countP_append, List.countP_singleton, if_pos hm]
  have hc : (l.take n).countP (inM must) ≤ l.length := Nat.le_trans (List.countP_le_length) (by rw [List.length_take]; omega)
  unfold LIM at hl
  unfold leftN
  rw [e, IntWalk.i64_in _ (by omega)]
  omega
theorem left_miss {must : Tst} {l : List At} {n : Nat} (h : n < l.length) (hm : inM must l[n] = false) : leftN must l n = leftN must l (n + 1) := by
  have e : (l.take (n + 1)).countP (inM must) = (l.take n).countP (inM must) := by
    rw [take_snoc h, List.countP_append, List.countP_singleton, if_neg (by rw [hm]; simp), Nat.add_zero]
  unfold leftN; rw [e]
end Go.Proofs.YtfdmmgiefhhnoaaGreatDoor

namespace Go.Proofs.YtfdmmgiefhhnoaaGreatDoor
open Go Go.AM Go.RowKit
attribute [local irreducible] aCode
def shIq : Tst := [(kType, wordB), (kId, wordB)]
def shQuery : Tst := [(kVer, numB)]
def shJid : Tst := [(kJid, userB)]
theorem not_mem_of {x : BA} {l : List BA} (h : memB x l = false) : x ∉ l := fun hm => by rw [(memB_iff _ _).2 hm] at h; cases h
def EOne1 : REnt := fun al o q => ∃ l x, al = [mkS x, .rf 0 0] ∧ o = [.box [mkSS l], .gh [.rf 0 0]] ∧ x.size ≤ LIM ∧ q (mkB (oneB l x)) o
noncomputable abbrev GF : List (FuncId × En) := [(40, .det (strF wordB)), (42, .det (strF cntB)), (63, .det (strF numB)), (12, .det (strF userB)), (36, .det (strF placeB)), (58, .ref (frameX EOne1))]
end Go.Proofs.YtfdmmgiefhhnoaaGreatDoor
