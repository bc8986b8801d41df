import Derived.Test.YthbejheedpdioaaDoorBindLib
import Derived.Test.YthbejheedpdioaaDoorBindIdx
set_option linter.unusedSimpArgs false
set_option linter.unusedVariables false
namespace Go.Proofs.YthbejheedpdioaaDoor
open Go Go.AM Go.RowKit
theorem arr3 {vs : Array Value} {x y z : Value} (h : vs.size = 3) (h0 : vs.getD 0 undef = x) (h1 : vs.getD 1 undef = y) (h2 : vs.getD 2 undef = z) : vs = #[x, y, z] := by
  apply Array.ext
  · simpa using h
  · intro i g1 g2
    have : i = 0 ∨ i = 1 ∨ i = 2 := by omega
    rcases this with rfl | rfl | rfl
    · simp [Array.getD_eq_getD_getElem?, Array.getElem?_eq_getElem g1] at h0
      simpa using h0
    · simp [Array.getD_eq_getD_getElem?, Array.getElem?_eq_getElem g1] at h1
      simpa using h1
    · simp [Array.getD_eq_getD_getElem?, Array.getElem?_eq_getElem g1] at h2
      simpa using h2
theorem get_mem (s : ByteArray) (pos : Nat) (h : pos < s.size) : s.get! pos ∈ s.data.toList := by
  have h' : pos < s.data.size := h
  have e : s.get! pos = s.data[pos] := by unfold ByteArray.get!; exact getElem!_pos s.data pos h'
  rw [e]; simp
theorem decode_low (s : ByteArray) (pos : Nat) (h : pos < s.size) (hl : ∀ b ∈ s.data.toList, b.toNat < 128) : (Utf8.decode s pos).1 = (s.get! pos).toNat := by
  have := hl _ (get_mem s pos h)
  simp [Utf8.decode, this]
abbrev isFn28 : AV := .d (.fn (.func 53) [] [])
def inL (s : ByteArray) : Prop := ∀ b ∈ s.data.toList, b ∈ letters.data.toList
def E48 : PE := fun al q => ∃ s, al = [mkS s, isFn28, mkB true] ∧ inL s ∧ q (mkI .i64 (-1))
theorem s48 : PSound Tryd.prog 88 E48 := by
  refine ⟨Tryd.call88, fun ext w al vs q hext hT hlen hrel hE => ?_⟩
  obtain ⟨s, rfl, hin, hq⟩ := hE
  have e0 := (inv_str (hrel 0 (by simp))).1
  obtain ⟨fv, cv, e1, z1, z2, _, _⟩ := inv_dfn4 (hrel 1 (by simp))
  have e2 := inv_bool (hrel 2 (by simp))
  have f1 := arr0 (by simpa using z1)
  have f2 := arr0 (by simpa using z2)
  subst f1; subst f2
  have := arr3 (by simpa using hlen) e0 e1 e2
  subst this
  refine (indexFunc_none Tryd.lays315 53 #[] Tryd.call53 s w ?_).mono fun e w' ⟨h1, h2⟩ => ⟨_, _, h1, hq, mkI_rel, h2⟩
  intro W pos hpos hb
  have hm := get_mem s pos hpos
  rw [decode_low s pos hpos fun b hb => letters_low b (hin b hb)]
  have hlow := letters_low _ (hin _ hm)
  refine (c28.call (fun _ => False) W [mkI .i32 ((s.get! pos).toNat : Int)] _ (fun av => av = mkB false) (fun _ h => h.elim) (Tabs.keeps (own := fun _ => False) ⟨hb.size, fun b hb2 _ => ⟨hb.block b hb2, id⟩⟩ (Tabs.fewer (fun _ h => h.elim) hT)) (by simp) (fun i hi => ?_) ?_).mono ?_
  · have : i = 0 := by simpa using hi
    subst this
    exact mkI_rel
  · have e : ((s.get! pos).toNat : Int).toNat.toUInt8 = s.get! pos := by simp
    show (0 ≤ ((s.get! pos).toNat : Int) ∧ ((s.get! pos).toNat : Int) < 128) ∧ mkB (!decide (((s.get! pos).toNat : Int).toNat.toUInt8 ∈ letters.data.toList)) = mkB false
    rw [e]
    exact ⟨⟨by omega, by omega⟩, by simp [hin _ hm]⟩
  · rintro e w' ⟨v, av, rfl, rfl, hv, hbl⟩
    exact ⟨by rw [inv_bool hv], hbl⟩
def F48 : List AV → Option (Prop × AV) := fun al => match al with
  | [.d (.v (.string s)), .d (.fn (.func f) [] []), .d (.v (.bool true))] => some (f = 53 ∧ inL s, mkI .i64 (-1))
  | _ => none
theorem c48 : PSound Tryd.prog 88 (detE F48) := s48.det fun al p r hF hp q hq => by
  unfold F48 at hF; split at hF <;> cases hF
  obtain ⟨rfl, hp⟩ := hp
  exact ⟨_, rfl, hp, hq⟩
def F41 : List AV → Option (Prop × AV) := fun al => match al with
  | [.d (.v (.string s)), .d (.fn (.func f) [] [])] => some (f = 53 ∧ inL s, mkI .i64 (-1))
  | _ => none
noncomputable abbrev G41 : List (FuncId × En) := [(88, .det F48)]
theorem r41 (s : ByteArray) (f : FuncId) (q : AV → Prop) :
  (aCode Tryd.K G41 Tryd.b68 (kRet Tryd.K Tryd.f68.results.toList q) ⟨[mkS s, .d (.fn (.func f) [] [])] ++ List.replicate (Tryd.f68.ntmps - 2) .jk, []⟩) = (
  ((f = (53 : FuncId)) ∧ (∀ (b : UInt8), (b ∈ (Array.toList (ByteArray.data s))) → b ∈ (Array.toList (ByteArray.data letters)))) ∧
  q (mkI .i64 (-(1 : Int)))) := by kernel_rfl
theorem c41 : PSound Tryd.prog 68 (detE F41) := by
  refine det_fn (c := Tryd.b68) mixed Tryd.K_ok (gsound_det c48 gsound_nil) Tryd.func68 rfl rfl Tryd.call68 fun al p r q hF hp hq => ?_
  unfold F41 at hF; split at hF <;> cases hF
  exact cast (r41 _ _ q).symm ⟨hp, hq⟩
def F27 : List AV → Option (Prop × AV) := fun al => match al with
  | [.d (.v (.string s)), .d (.fn (.func f) [] [])] => some (f = 53 ∧ inL s, mkB false)
  | _ => none
noncomputable abbrev G27 : List (FuncId × En) := [(68, .det F41)]
theorem r27 (s : ByteArray) (f : FuncId) (q : AV → Prop) :
  (aCode Tryd.K G27 Tryd.b52 (kRet Tryd.K Tryd.f52.results.toList q) ⟨[mkS s, .d (.fn (.func f) [] [])] ++ List.replicate (Tryd.f52.ntmps - 2) .jk, []⟩) = (
  ((f = (53 : FuncId)) ∧ (∀ (b : UInt8), (b ∈ (Array.toList (ByteArray.data s))) → b ∈ (Array.toList (ByteArray.data letters)))) ∧
  q (mkB (decide ((-(1 : Int)) ≥ (0 : Int))))) := by kernel_rfl
theorem c27 : PSound Tryd.prog 52 (detE F27) := by
  refine det_fn (c := Tryd.b52) mixed Tryd.K_ok (gsound_det c41 gsound_nil) Tryd.func52 rfl rfl Tryd.call52 fun al p r q hF hp hq => ?_
  unfold F27 at hF; split at hF <;> cases hF
  exact cast (r27 _ _ q).symm ⟨hp, hq⟩
theorem dropWhile_nil {α : Type} (p : α → Bool) : ∀ l : List α, l.dropWhile p = [] ↔ ∀ b ∈ l, p b = true
  | [] => by simp
  | x :: l => by
    have ih := dropWhile_nil p l
    by_cases h : p x = true
    · simp [List.dropWhile, h, ih]
    · simp [List.dropWhile, h]
theorem trimS_nil (l cs : List UInt8) : Lib.trimS l cs = [] ↔ ∀ b ∈ l, b ∈ cs := by
  unfold Lib.trimS Lib.trimLeftS Lib.trimRightS
  constructor
  · intro h
    rw [dropWhile_nil] at h
    by_cases h2 : l.reverse.dropWhile (fun x => cs.contains x) = []
    · rw [dropWhile_nil] at h2
      intro b hb
      simpa using h2 b (by simpa using hb)
    · exfalso
      have h3 := List.head_dropWhile_not (fun x => cs.contains x) h2
      have := h (List.head _ h2) (by simp)
      rw [this] at h3; cases h3
  · intro h
    have : l.reverse.dropWhile (fun x => cs.contains x) = [] := by
      rw [dropWhile_nil]
      intro b hb
      simpa using h b (by simpa using hb)
    rw [this]; rfl
def userB (s : ByteArray) : Bool := decide (1 ≤ s.size) && decide (s.size ≤ 16) && s.data.toList.all fun b => decide (b ∈ letters.data.toList)
def F19 : List AV → Option (Prop × AV) := fun al => match al with
  | [.d (.v (.string s))] => some (True, mkB (userB s))
  | _ => none
noncomputable abbrev G19 : List (FuncId × En) := [(51, .det F26), (52, .det F27)]
theorem r19 (s : ByteArray) (q : AV → Prop) :
  (aCode Tryd.K G19 Tryd.b41 (kRet Tryd.K Tryd.f41.results.toList q) ⟨[mkS s] ++ List.replicate (Tryd.f41.ntmps - 1) .jk, []⟩) = (
  bcase (!(decide (s = ⟨#[]⟩))) (
   ((ByteArray.size s) ≤ LIM) →
   bcase (decide (((ByteArray.size s) : Int) ≤ (16 : Int))) (
    (letters = letters) ∧
    bcase (decide ((⟨List.toArray (Lib.trimS (Array.toList (ByteArray.data s)) (Array.toList (ByteArray.data letters)))⟩ : ByteArray) = ⟨#[]⟩)) (
     (((53 : Nat) = (53 : FuncId)) ∧ (∀ (b : UInt8), (b ∈ (Array.toList (ByteArray.data s))) → b ∈ (Array.toList (ByteArray.data letters)))) ∧
     q (mkB (!false))) (
     q (mkB false))) (
    q (mkB false))) (
   q (mkB false))) := by kernel_rfl
theorem size_zero (s : ByteArray) : s = ⟨#[]⟩ ↔ s.size = 0 := by
  constructor
  · rintro rfl; rfl
  · intro h
    have : s.data = #[] := Array.eq_empty_of_size_eq_zero h
    cases s; simp_all
theorem mk_nil (l : List UInt8) : (⟨l.toArray⟩ : ByteArray) = ⟨#[]⟩ ↔ l = [] := by
  constructor
  · intro h
    have : l.toArray = #[] := congrArg ByteArray.data h
    simpa using this
  · rintro rfl; rfl
theorem c19 : PSound Tryd.prog 41 (detE F19) := by
  refine det_fn (c := Tryd.b41) mixed Tryd.K_ok (gsound_det c26 (gsound_det c27 gsound_nil)) Tryd.func41 rfl rfl Tryd.call41 fun al p r q hF hp hq => ?_
  unfold F19 at hF; split at hF <;> cases hF
  rename_i s
  refine cast (r19 _ q).symm ?_
  refine bcase_mk (fun h _ => bcase_mk (fun h2 => ⟨rfl, bcase_mk (fun h3 => ?_) (fun h3 => ?_)⟩) (fun h2 => ?_)) (fun h => ?_)
  · have h3 : Lib.trimS s.data.toList letters.data.toList = [] := by
      exact (mk_nil _).1 (of_decide_eq_true h3)
    have hin : inL s := (trimS_nil _ _).1 h3
    refine ⟨⟨rfl, hin⟩, ?_⟩
    have : userB s = true := by
      simp only [Bool.not_eq_true', decide_eq_false_iff_not, size_zero, decide_eq_true_eq] at h h2
      simp only [userB, Bool.and_eq_true, decide_eq_true_eq, List.all_eq_true]
      exact ⟨⟨by omega, by omega⟩, hin⟩
    rw [this] at hq; exact hq
  · have h3 : ¬ Lib.trimS s.data.toList letters.data.toList = [] := by
      intro e
      have : (⟨(Lib.trimS s.data.toList letters.data.toList).toArray⟩ : ByteArray) = ⟨#[]⟩ := by rw [e]
      exact of_decide_eq_false h3 this
    have : userB s = false := by
      rw [trimS_nil] at h3
      cases hu : userB s
      · rfl
      · simp only [userB, Bool.and_eq_true, decide_eq_true_eq, List.all_eq_true] at hu
        exact absurd hu.2 h3
    rw [this] at hq; exact hq
  · have : userB s = false := by
      have h2 : ¬ (s.size : Int) ≤ 16 := by simpa using h2
      cases hu : userB s
      · rfl
      · simp only [userB, Bool.and_eq_true, decide_eq_true_eq] at hu
        omega
    rw [this] at hq; exact hq
  · have : userB s = false := by
      simp only [Bool.not_eq_false', decide_eq_true_eq, size_zero] at h
      cases hu : userB s
      · rfl
      · simp only [userB, Bool.and_eq_true, decide_eq_true_eq] at hu
        omega
    rw [this] at hq; exact hq
end Go.Proofs.YthbejheedpdioaaDoor
