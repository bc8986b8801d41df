import Derived.Test.YthbejheedpdioaaDoorCrPlain
import Derived.Test.YthbejheedpdioaaDoorFrame3
import Derived.Test.YthbejheedpdioaaDoorCrLives
set_option linter.unusedSimpArgs false
set_option linter.unusedVariables false
set_option maxRecDepth 10000
namespace Go.Proofs.YthbejheedpdioaaDoor
open Go Go.AM Go.RowKit
theorem tyargs2 {P : Program} {t u : TypeId} : ∀ {as' : List AV}, TyArgs P [t, u] as' → ∃ a b, as' = [a, b] ∧ TyArg P t a ∧ TyArg P u b
  | [], h => h.elim
  | [_], h => h.2.elim
  | [a, b], h => ⟨a, b, rfl, h.1, h.2.1⟩
  | _ :: _ :: _ :: _, h => h.2.2.elim
theorem tyS {P : Program} {n : Nat} {t : TypeId} {ds : List D} (hu : P.underlying t = some .string) (h : Ty P n t ds) : ∃ s : BA, ds = [.v (.string s)] ∧ s.size ≤ 1048576 := by
  cases n with
  | zero => exact h.elim
  | succ n => unfold Ty at h; rw [hu] at h; exact h
theorem tyI {P : Program} {n : Nat} {t : TypeId} {k : IntKind} {ds : List D} (hu : P.underlying t = some (.int k)) (h : Ty P n t ds) : ∃ i : Int, ds = [.v (.int k i)] ∧ (Lit.int k i).wf = true := by
  cases n with
  | zero => exact h.elim
  | succ n => unfold Ty at h; rw [hu] at h; exact h
theorem tyB {P : Program} {n : Nat} {t : TypeId} {ds : List D} (hu : P.underlying t = some .bool) (h : Ty P n t ds) : ∃ b : Bool, ds = [.v (.bool b)] := by
  cases n with
  | zero => exact h.elim
  | succ n => unfold Ty at h; rw [hu] at h; exact h
theorem tyL {P : Program} {n : Nat} {t e : TypeId} {ds : List D} (hu : P.underlying t = some (.slice e)) (h : Ty P n t ds) : ∃ es : List (List D), ds = [.sl es] ∧ es.length ≤ 1048576 ∧ ∃ m, m < n ∧ ∀ c ∈ es, Ty P m e c := by
  cases n with
  | zero => exact h.elim
  | succ n =>
    unfold Ty at h; rw [hu] at h
    obtain ⟨es, h1, h2, h3⟩ := h
    exact ⟨es, h1, h2, n, by omega, h3⟩
theorem tySt {P : Program} {n : Nat} {t : TypeId} {fs : Array Field} {ts : List TypeId} {ds : List D} (hu : P.underlying t = some (.struct fs)) (hf : fs.toList.map (·.type) = ts) (h : Ty P n t ds) : ∃ m, m < n ∧ TyL (Ty P m) ts ds := by
  cases n with
  | zero => exact h.elim
  | succ n =>
    unfold Ty at h; rw [hu] at h
    exact ⟨n, by omega, hf ▸ h⟩
structure Stz where
  kind : Int
  ty : BA
  id : BA
  fr : BA
  to : BA
  sh : BA
  tok : BA
  rea : BA
  hh : Int
  ver : Int
  rem : Bool
  its : List (List D)
structure Stz.fit (s : Stz) : Prop where
  ty : s.ty.size ≤ SZC
  fr : s.fr.size ≤ SZC
  sh : s.sh.size ≤ SZC
def stzD (s : Stz) : List D := [.v (.int .i64 s.kind), .v (.string s.ty), .v (.string s.id), .v (.string s.fr), .v (.string s.to), .v (.string s.sh), .v (.string s.tok), .v (.string s.rea), .v (.int .u32 s.hh), .v (.int .i64 s.ver), .v (.bool s.rem), .sl s.its]
theorem ty_stz {n : Nat} {ds : List D} (h : Ty Tryd.prog n 29 ds) : ∃ s : Stz, ds = stzD s ∧ s.fit := by
  obtain ⟨m, _, h⟩ := tySt (ts := [3, 9, 9, 9, 9, 9, 9, 9, 26, 3, 4, 27]) Tryd.underlying29 rfl h
  obtain ⟨_, _, rfl, h1, _, _, rfl, h2, _, _, rfl, h3, _, _, rfl, h4, _, _, rfl, h5, _, _, rfl, h6, _, _, rfl, h7, _, _, rfl, h8, _, _, rfl, h9, _, _, rfl, h10, _, _, rfl, h11, _, _, rfl, h12, rfl⟩ := h
  obtain ⟨kind, rfl, _⟩ := tyI Tryd.underlying3 h1
  obtain ⟨ty, rfl, f2⟩ := tyS Tryd.underlying9 h2
  obtain ⟨id, rfl, f3⟩ := tyS Tryd.underlying9 h3
  obtain ⟨fr, rfl, f4⟩ := tyS Tryd.underlying9 h4
  obtain ⟨to_, rfl, f5⟩ := tyS Tryd.underlying9 h5
  obtain ⟨sh, rfl, f6⟩ := tyS Tryd.underlying9 h6
  obtain ⟨tk, rfl, f7⟩ := tyS Tryd.underlying9 h7
  obtain ⟨re, rfl, f8⟩ := tyS Tryd.underlying9 h8
  obtain ⟨hh, rfl, _⟩ := tyI Tryd.underlying26 h9
  obtain ⟨v, rfl, _⟩ := tyI Tryd.underlying3 h10
  obtain ⟨r, rfl⟩ := tyB Tryd.underlying4 h11
  obtain ⟨es, rfl, _, _, _, _⟩ := tyL Tryd.underlying27 h12
  exact ⟨⟨kind, ty, id, fr, to_, sh, tk, re, hh, v, r, es⟩, rfl, ⟨f2, f4, f6⟩⟩
end Go.Proofs.YthbejheedpdioaaDoor

namespace Go.Proofs.YthbejheedpdioaaDoor
open Go Go.AM Go.RowKit
attribute [local irreducible] aUnr aUnS aCode
noncomputable def rSa_k0 (q : AV → Prop) : Kont := kBlk (0 : Nat) (kSeq (aCode KC [] (cAt [1, 1, 1] Tryd.b14) (kRet KC (Array.toList (Func.results Tryd.f14)) q)) (kRet KC (Array.toList (Func.results Tryd.f14)) q))
theorem rSa (a b : List (List D)) (q : AV → Prop) :
  (aCode KC [] Tryd.b14 (kRet KC Tryd.f14.results.toList q) ⟨[.d (.sl a), .d (.sl b)] ++ List.replicate (Tryd.f14.ntmps - 2) .jk, []⟩) = (
  ((List.length a) ≤ LIM) →
  ((List.length b) ≤ LIM) →
  bcase (((List.length a) : Int) != ((List.length b) : Int)) (
   q (mkB false)) (
   ALoop (aCode KC [] (cAt [1, 1, 0, 1, 0, 0] Tryd.b14)) (rSa_k0 q) ⟨[AV.d (.sl a), AV.d (.sl b), AV.jk, AV.jk, mkB false, mkI .i64 0, AV.d (.sl a), mkI .i64 ((List.length a) : Int), AV.d (.sl b), mkI .i64 ((List.length b) : Int), mkB false] ++ (jks 15), []⟩)) := by kernel_rfl
def stSa (a b : List (List D)) (i : Int) : S := ⟨[.d (.sl a), .d (.sl b), .jk, .jk, mkB false, mkI .i64 i] ++ jks 20, []⟩
theorem rSa_b {ι : Type} (st : ι → S) (inv : ι → Prop) (μ : ι → Nat) (kk : ι) (a b : List (List D)) (i : Int) (q : AV → Prop) :
  (aCode KC [] (cAt [1, 1, 0, 1, 0, 0] Tryd.b14) (kFamM [] (maskOf (stSa a b i)) st inv μ kk (rSa_k0 q)) (stSa a b i)) = (
  ((List.length a) ≤ LIM) →
  bcase (decide (i < ((List.length a) : Int))) (
   (((0 : Int) ≤ i) ∧ (i < ((List.length a) : Int))) ∧
   ((List.length (List.getD a (Int.toNat i) [])) = 1) ∧
   ((1 : Nat) ≤ (List.length (List.getD a (Int.toNat i) []))) ∧
   ((List.getD (List.getD a (Int.toNat i) []) 0 d0) = (D.v (.string (strD (List.getD (List.getD a (Int.toNat i) []) 0 d0))))) ∧
   (((0 : Int) ≤ i) ∧ (i < ((List.length b) : Int))) ∧
   ((List.length (List.getD b (Int.toNat i) [])) = 1) ∧
   ((1 : Nat) ≤ (List.length (List.getD b (Int.toNat i) []))) ∧
   ((List.getD (List.getD b (Int.toNat i) []) 0 d0) = (D.v (.string (strD (List.getD (List.getD b (Int.toNat i) []) 0 d0))))) ∧
   bcase (!(decide ((strD (List.getD (List.getD a (Int.toNat i) []) 0 d0)) = (strD (List.getD (List.getD b (Int.toNat i) []) 0 d0))))) (
    q (mkB false)) (
    FamNext st inv μ kk ⟨[AV.d (.sl a), AV.d (.sl b), AV.jk, AV.jk, mkB false, mkI .i64 (IntKind.wrap .i64 (i + (1 : Int)))] ++ (jks 20), []⟩)) (
   q (mkB true))) := by kernel_rfl
def F14 : List AV → Option (Prop × AV) := fun al => match al with
  | [.d (.sl a), .d (.sl b)] => some (a = strsD (unSS a) ∧ b = strsD (unSS b), mkB (decide (unSS a = unSS b)))
  | _ => none
theorem strs_at (x : List ByteArray) {i : Nat} (h : i < x.length) : (strsD x).getD ((i : Int).toNat) [] = [.v (.string x[i])] := by
  rw [Int.toNat_natCast]; exact strsD_getD x _ h |>.trans (by simp [List.getD_eq_getElem?_getD, h])
theorem c14 : PSound Tryd.prog 14 (detE F14) := by
  refine det_fn (c := Tryd.b14) mixed KC_ok gsound_nil Tryd.func14 rfl rfl Tryd.call14 fun al p r q hF hp hq => ?_
  unfold F14 at hF; split at hF <;> cases hF
  rename_i a b
  obtain ⟨ha, hb⟩ := hp
  generalize unSS a = x at ha hq
  generalize unSS b = y at hb hq
  subst ha hb
  refine cast (rSa (strsD x) (strsD y) q).symm fun hla _ => ?_
  have hla : x.length ≤ LIM := by rw [strsD_length] at hla; exact hla
  unfold LIM at hla
  rw [strsD_length, strsD_length]
  refine bcase_mk (fun h => ?_) (fun h => ?_)
  · have h : x.length ≠ y.length := fun e => by rw [e] at h; simp at h
    rw [decide_eq_false (fun e => h (by rw [e]))] at hq
    exact hq
  · have hl : x.length = y.length := by
      have : ((x.length : Nat) : Int) = (y.length : Int) := by simpa using h
      omega
    refine ALoop.introM [] (maskOf (stSa (strsD x) (strsD y) 0)) (fun i : Nat => stSa (strsD x) (strsD y) (i : Int)) (fun i => i ≤ x.length ∧ ∀ (j : Nat) (h1 : j < x.length) (h2 : j < y.length), j < i → x[j] = y[j]) (fun i => x.length - i)
      ⟨[], 0, by generalize strsD x = a; generalize strsD y = b; simp [S.le, sealAll, leL, leA, leO, jks, stSa, mkI, mkS, mkB, S.fits, fitsL, AV.fits, Ob.fits], Nat.zero_le _, fun j _ _ h => by omega⟩ fun i ⟨hi, hj⟩ => ?_
    refine cast (rSa_b _ _ _ i (strsD x) (strsD y) (i : Int) q).symm fun _ => ?_
    rw [strsD_length, strsD_length]
    refine bcase_dec (fun hlt => ?_) (fun hge => ?_)
    · have hlt : i < x.length := by omega
      have w1 : IntKind.wrap .i64 ((i : Int) + 1) = ((i + 1 : Nat) : Int) := by rw [IntWalk.i64_in _ (by omega)]; omega
      rw [strs_at x hlt, strs_at y (by omega : i < y.length), w1]
      refine ⟨by omega, rfl, by simp, rfl, by omega, rfl, by simp, rfl, bcase_mk (fun hn => ?_) (fun he => ?_)⟩
      · have hn : (!(decide (x[i] = y[i]))) = true := hn
        have hn : x[i] ≠ y[i] := by simpa using hn
        have : x ≠ y := fun e => hn (by subst e; rfl)
        rw [decide_eq_false this] at hq
        exact hq
      · have he : (!(decide (x[i] = y[i]))) = false := he
        have he : x[i] = y[i] := by simpa using he
        refine .mk [] (i + 1) ?_ ⟨hlt, fun j h1 h2 hj1 => ?_⟩ (show x.length - (i + 1) < x.length - i by omega)
        · generalize strsD x = a
          generalize strsD y = b
          simp [S.le, sealAll, leL, leA, leO, jks, stSa, mkI, mkS, mkB, S.fits, fitsL, AV.fits, Ob.fits]
        · by_cases e : j = i
          · subst e; exact he
          · exact hj j h1 h2 (by omega)
    · have : x = y := List.ext_getElem hl fun j h1 h2 => hj j h1 h2 (by omega)
      rw [decide_eq_true this] at hq
      exact hq
end Go.Proofs.YthbejheedpdioaaDoor
