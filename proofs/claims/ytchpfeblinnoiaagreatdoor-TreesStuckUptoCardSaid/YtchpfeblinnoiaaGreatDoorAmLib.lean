import Derived.Test.YtchpfeblinnoiaaGreatDoorAmFrame
set_option linter.unusedSimpArgs false
set_option linter.unusedVariables false
namespace Go.AM
open Go.RowKit
theorem arr1 {vs : Array Value} {x : Value} (h : vs.size = 1) (h0 : vs.getD 0 undef = x) : vs = #[x] := by
  apply Array.ext
  · simpa using h
  · intro i h1 h2
    have : i = 0 := by omega
    subst this
    simp [Array.getD_eq_getD_getElem?, Array.getElem?_eq_getElem h1] at h0
    simpa using h0
theorem arr2 {vs : Array Value} {x y : Value} (h : vs.size = 2) (h0 : vs.getD 0 undef = x) (h1 : vs.getD 1 undef = y) : vs = #[x, y] := by
  apply Array.ext
  · simpa using h
  · intro i g1 g2
    have : i = 0 ∨ i = 1 := by omega
    rcases this with rfl | rfl
    · simp [Array.getD_eq_getD_getElem?, Array.getElem?_eq_getElem g1] at h0
      simpa using h0
    · simp [Array.getD_eq_getD_getElem?, Array.getElem?_eq_getElem g1] at h1
      simpa using h1
theorem mkS_rel {X : Cx} {s : ByteArray} (h : s.size ≤ LIM) : VRel X (mkS s) (.string s) := .d (.v (by simpa [plainV] using h))
theorem mkI_rel {X : Cx} {k : IntKind} {n : Int} : VRel X (mkI k n) (.int k n) := .d (.v rfl)
theorem mkB_rel {X : Cx} {b : Bool} : VRel X (mkB b) (.bool b) := .d (.v rfl)
theorem ps1 {P : Program} {f : FuncId} {E : List AV → (AV → Prop) → Prop} (hc : ∀ args w, (callFunc f args).run P w = .ok (.enter f args) w)
    (h : ∀ as q, E as q → ∃ x, as = [.d (.v x)] ∧ (plainV x = true → ∀ w, Calls P f #[x] w fun e w' => ∃ v av, e = .returned v ∧ q av ∧ (∀ X, VRel X av v) ∧ Below w.heap.size w w')) : PSound P f E := by
  refine ⟨hc, fun ext w as vs q hext hT hlen hrel hE => ?_⟩
  obtain ⟨x, rfl, hw⟩ := h as q hE
  obtain ⟨e0, p0⟩ := inv_v (hrel 0 (by simp))
  have := arr1 (by simpa using hlen) e0
  subst this
  exact (hw p0 w).mono fun e w' ⟨v, av, h1, h2, h3, h4⟩ => ⟨v, av, h1, h2, h3 _, h4⟩
theorem ps1t {P : Program} {f : FuncId} {E : List AV → (AV → Prop) → Prop} (hc : ∀ args w, (callFunc f args).run P w = .ok (.enter f args) w)
    (h : ∀ as q, E as q → ∃ x, as = [.d (.v x)] ∧ (plainV x = true → ∀ w, Tabs (fun _ => False) w → Calls P f #[x] w fun e w' => ∃ v av, e = .returned v ∧ q av ∧ (∀ X, VRel X av v) ∧ Below w.heap.size w w')) : PSound P f E := by
  refine ⟨hc, fun ext w as vs q hext hT hlen hrel hE => ?_⟩
  obtain ⟨x, rfl, hw⟩ := h as q hE
  obtain ⟨e0, p0⟩ := inv_v (hrel 0 (by simp))
  have := arr1 (by simpa using hlen) e0
  subst this
  exact (hw p0 w (hT.fewer fun _ h => h.elim)).mono fun e w' ⟨v, av, h1, h2, h3, h4⟩ => ⟨v, av, h1, h2, h3 _, h4⟩
theorem ps2 {P : Program} {f : FuncId} {E : List AV → (AV → Prop) → Prop} (hc : ∀ args w, (callFunc f args).run P w = .ok (.enter f args) w)
    (h : ∀ as q, E as q → ∃ x y, as = [.d (.v x), .d (.v y)] ∧ (plainV x = true → plainV y = true → ∀ w, Calls P f #[x, y] w fun e w' => ∃ v av, e = .returned v ∧ q av ∧ (∀ X, VRel X av v) ∧ Below w.heap.size w w')) : PSound P f E := by
  refine ⟨hc, fun ext w as vs q hext hT hlen hrel hE => ?_⟩
  obtain ⟨x, y, rfl, hw⟩ := h as q hE
  obtain ⟨e0, p0⟩ := inv_v (hrel 0 (by simp))
  obtain ⟨e1, p1⟩ := inv_v (hrel 1 (by simp))
  have := arr2 (by simpa using hlen) e0 e1
  subst this
  exact (hw p0 p1 w).mono fun e w' ⟨v, av, h1, h2, h3, h4⟩ => ⟨v, av, h1, h2, h3 _, h4⟩
def strsD (l : List ByteArray) : List (List D) := l.map fun b => [.v (.string b)]
def unSS (es : List (List D)) : List ByteArray := es.map fun c => strD (c.getD 0 d0)
@[simp] theorem unSS_strsD (l : List ByteArray) : unSS (strsD l) = l := by
  induction l with
  | nil => rfl
  | cons x l ih => exact congrArg (x :: ·) ih
@[simp] theorem strsD_len (l : List ByteArray) : (strsD l).length = l.length := by simp [strsD]
@[simp] theorem strD_str (s : ByteArray) : strD (.v (.string s)) = s := rfl
@[simp] theorem intD_int (k : IntKind) (n : Int) : intD (.v (.int k n)) = n := rfl
@[simp] theorem boolD_bool (b : Bool) : boolD (.v (.bool b)) = b := rfl
@[simp] theorem slD_sl (l : List (List D)) : slD (.sl l) = l := rfl
@[simp] theorem bcase_true (x y : Prop) : bcase true x y = x := by simp [bcase]
@[simp] theorem bcase_false (x y : Prop) : bcase false x y = y := by simp [bcase]
@[simp] theorem leA_self (x : AV) (k : Prop) : leA x x k = k := by
  unfold leA
  cases x <;> simp
@[simp] theorem leA_jk (x : AV) (k : Prop) : leA x .jk k = k := rfl
@[simp] theorem leA_d (x y : D) (k : Prop) : leA (.d x) (.d y) k = (x = y ∧ k) := by simp [leA]
@[simp] theorem leA_nl (k : Prop) : leA .nl (.d (.sl [])) k = k := by simp [leA]
@[simp] theorem leA_mkI' (k : IntKind) (a b : Int) (p : Prop) : leA (mkI k a) (mkI k b) p = (a = b ∧ p) := by
  unfold mkI; simp
@[simp] theorem leA_mkS (a b : ByteArray) (p : Prop) : leA (mkS a) (mkS b) p = (a = b ∧ p) := by
  unfold mkS; simp
@[simp] theorem leA_mkB (a b : Bool) (p : Prop) : leA (mkB a) (mkB b) p = (a = b ∧ p) := by
  unfold mkB; simp
@[simp] theorem leA_vw (r n r' n' : Nat) (p : Prop) : leA (.vw r n) (.vw r' n') p = (r = r' ∧ n = n' ∧ p) := by
  simp [leA, and_assoc]
@[simp] theorem sub_mkS (r : Nat) (es : List (List D)) (b : ByteArray) : (mkS b).sub r es = mkS b := by simp [mkS, AV.sub]
@[simp] theorem sub_mkI (r : Nat) (es : List (List D)) (k : IntKind) (n : Int) : (mkI k n).sub r es = mkI k n := by simp [mkI, AV.sub]
@[simp] theorem sub_mkB (r : Nat) (es : List (List D)) (b : Bool) : (mkB b).sub r es = mkB b := by simp [mkB, AV.sub]
@[simp] theorem fits_mkS (n : Nat) (b : ByteArray) : (mkS b).fits n = true := by simp [mkS, AV.fits]
@[simp] theorem fits_mkI (n : Nat) (k : IntKind) (m : Int) : (mkI k m).fits n = true := by simp [mkI, AV.fits]
@[simp] theorem fits_mkB (n : Nat) (b : Bool) : (mkB b).fits n = true := by simp [mkB, AV.fits]
theorem bcase_dec {p : Prop} [Decidable p] {A B : Prop} (h : p → A) (h' : ¬p → B) : bcase (decide p) A B := bcase_mk (fun e => h (of_decide_eq_true e)) (fun e => h' (of_decide_eq_false e))
theorem bcaseT {b : Bool} {x y : Prop} (h : b = true) (hx : x) : bcase b x y := by rw [h, bcase_true]; exact hx
theorem bcaseF {b : Bool} {x y : Prop} (h : b = false) (hy : y) : bcase b x y := by rw [h, bcase_false]; exact hy
theorem bytesD_len (s : ByteArray) : (bytesD s).length = s.size := by unfold bytesD; rw [List.length_map]; exact Array.length_toList
theorem unB_bytesD (b : ByteArray) : unB (bytesD b) = b := by
  unfold unB bytesD
  rw [List.map_map]
  have : (byteOfD ∘ fun x : UInt8 => ([D.v (.int .u8 x.toNat)] : List D)) = id := by
    funext x; simp [byteOfD]
  rw [this, List.map_id]
theorem bytesD_push (b : ByteArray) (c : UInt8) : bytesD b ++ [[.v (.int .u8 (c.toNat : Int))]] = bytesD (b.push c) := by
  simp [bytesD, ByteArray.push]
theorem size_push (b : ByteArray) (c : UInt8) : (b.push c).size = b.size + 1 := by
  show (b.data.push c).size = _
  rw [Array.size_push]; rfl
theorem wrap_succ {n m : Nat} (h : n < m) (hl : m ≤ LIM) : IntKind.i64.wrap ((n : Int) + 1) = ((n + 1 : Nat) : Int) := by
  unfold LIM at hl
  rw [IntWalk.i64_in _ (by omega)]; omega
end Go.AM
