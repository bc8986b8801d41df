import Derived.Test.YtldcalmoboeeiaaDoorRosPact
import Derived.Test.YtldcalmoboeeiaaDoorBindLib
set_option linter.unusedSimpArgs false
set_option linter.unusedVariables false
namespace Go.Proofs.YtldcalmoboeeiaaDoor
open Go Go.AM Go.RowKit
attribute [local irreducible] aCode aUnr aUnS aOut
abbrev BA := ByteArray
section
variable {κ α : Type} [DecidableEq κ]
def alk (k : κ) : List (κ × α) → Option α
  | [] => none
  | (a, x) :: l => if a = k then some x else alk k l
def aset (k : κ) (x : α) : List (κ × α) → List (κ × α)
  | [] => [(k, x)]
  | (a, y) :: l => if a = k then (a, x) :: l else (a, y) :: aset k x l
def adel (k : κ) : List (κ × α) → List (κ × α)
  | [] => []
  | (a, y) :: l => if a = k then l else (a, y) :: adel k l
def encM (ke : κ → Key) (ve : α → AV) (l : List (κ × α)) : List (Key × AV) := l.map fun e => (ke e.1, ve e.2)
theorem enc_find {ke : κ → Key} {ve : α → AV} (hk : ∀ a b, ke a = ke b → a = b) (k : κ) : ∀ l : List (κ × α), findKeyA (ke k) (encM ke ve l) = (alk k l).map ve
  | [] => rfl
  | (a, x) :: l => by
    show (if ke a = ke k then some (ve x) else findKeyA (ke k) (encM ke ve l)) = (if a = k then some x else alk k l).map ve
    by_cases h : a = k
    · subst h; simp
    · rw [if_neg (fun e => h (hk _ _ e)), if_neg h, enc_find hk k l]
theorem enc_set {ke : κ → Key} {ve : α → AV} (hk : ∀ a b, ke a = ke b → a = b) (k : κ) (x : α) : ∀ l : List (κ × α), setKeyA (ke k) (ve x) (encM ke ve l) = encM ke ve (aset k x l)
  | [] => rfl
  | (a, y) :: l => by
    show (if ke a = ke k then (ke a, ve x) :: encM ke ve l else (ke a, ve y) :: setKeyA (ke k) (ve x) (encM ke ve l)) = encM ke ve (if a = k then (a, x) :: l else (a, y) :: aset k x l)
    by_cases h : a = k
    · subst h; simp [encM]
    · rw [if_neg (fun e => h (hk _ _ e)), if_neg h, enc_set hk k x l]; rfl
theorem enc_del {ke : κ → Key} {ve : α → AV} (hk : ∀ a b, ke a = ke b → a = b) (k : κ) : ∀ l : List (κ × α), delKeyA (ke k) (encM ke ve l) = encM ke ve (adel k l)
  | [] => rfl
  | (a, y) :: l => by
    show (if ke a = ke k then encM ke ve l else (ke a, ve y) :: delKeyA (ke k) (encM ke ve l)) = encM ke ve (if a = k then l else (a, y) :: adel k l)
    by_cases h : a = k
    · subst h; simp
    · rw [if_neg (fun e => h (hk _ _ e)), if_neg h, enc_del hk k l]; rfl
theorem enc_has {ke : κ → Key} {ve : α → AV} (hk : ∀ a b, ke a = ke b → a = b) (k : κ) (l : List (κ × α)) : hasK (ke k) (encM ke ve l) = (alk k l).isSome := by
  simp [hasK, enc_find hk]
theorem alk_set (k k' : κ) (x : α) : ∀ l : List (κ × α), alk k (aset k' x l) = if k = k' then some x else alk k l
  | [] => by
    by_cases h : k = k'
    · subst h; simp [aset, alk]
    · have h' : ¬ k' = k := fun e => h e.symm
      simp [aset, alk, h, h']
  | (a, y) :: l => by
    have ih := alk_set k k' x l
    by_cases h1 : a = k'
    · subst h1
      by_cases h : k = a
      · subst h; simp [aset, alk]
      · have h' : ¬ a = k := fun e => h e.symm
        simp [aset, alk, h, h']
    · by_cases h2 : a = k
      · subst h2
        simp [aset, alk, h1]
      · simp [aset, alk, h1, h2, ih]
end
def ssK (p : BA × BA) : Key := .ss [p.1, p.2]
theorem ssK_inj (a b : BA × BA) (h : ssK a = ssK b) : a = b := by
  simp only [ssK, Key.ss.injEq, List.cons.injEq, and_true] at h
  exact Prod.ext h.1 h.2
def sK (s : BA) : Key := .s s
theorem sK_inj (a b : BA) (h : sK a = sK b) : a = b := by simpa [sK] using h
abbrev Sds := List ((BA × BA) × Sd)
abbrev Nms := List ((BA × BA) × BA)
abbrev Vss := List (BA × Int)
def sdE (l : Sds) : List (Key × AV) := encM ssK mkSd l
def nmE (l : Nms) : List (Key × AV) := encM ssK mkS l
def vsE (l : Vss) : List (Key × AV) := encM sK (mkI .i64) l
/-- A book's objects. -/
def bkO (us : List BA) (sd : Sds) (nm : Nms) (vs : Vss) : List Ob := [.box [mkSS us, .mp 1, .mp 2, .mp 3], .map (.ystrs 2) (sdE sd), .map (.ystrs 2) (nmE nm), .map .ystr (vsE vs), .gh [.rf 0 0, .mp 1, .mp 2, .mp 3]]
abbrev GK : List (FuncId × En) := [(74, .det F20)]
theorem rKnows (us : List BA) (sd : Sds) (nm : Nms) (vs : Vss) (u : BA) (q : AV → List Ob → Prop) :
  (aCode Tryd.K GK Tryd.b42 (kRetF Tryd.K Tryd.f42.results.toList q) ⟨[.rf 0 0, mkS u] ++ List.replicate (Tryd.f42.ntmps - 2) .jk, bkO us sd nm vs⟩) = (
  ((strsD us) = (strsD (unSS (strsD us)))) ∧
  q (mkB (memB u (unSS (strsD us)))) [Ob.box [mkSS us, AV.mp 1, AV.mp 2, AV.mp 3], Ob.map (KK.ystrs 2) (sdE sd), Ob.map (KK.ystrs 2) (nmE nm), Ob.map KK.ystr (vsE vs), Ob.gh [AV.rf 0 0, AV.mp 1, AV.mp 2, AV.mp 3]]) := by kernel_rfl
theorem rContact (us : List BA) (sd : Sds) (nm : Nms) (vs : Vss) (u c : BA) (q : AV → List Ob → Prop) :
  (aCode Tryd.K [] Tryd.b49 (kRetF Tryd.K Tryd.f49.results.toList q) ⟨[.rf 0 0, mkS u, mkS c] ++ List.replicate (Tryd.f49.ntmps - 3) .jk, bkO us sd nm vs⟩) = (
  ∃ (s : ByteArray),
  ((getO (Key.ss [u, c]) (nmE nm) (mkS (⟨#[]⟩ : ByteArray))) = (mkS s)) ∧
  q (AV.tp [mkS s, mkB (hasK (Key.ss [u, c]) (nmE nm))]) [Ob.box [mkSS us, AV.mp 1, AV.mp 2, AV.mp 3], Ob.map (KK.ystrs 2) (sdE sd), Ob.map (KK.ystrs 2) (nmE nm), Ob.map KK.ystr (vsE vs), Ob.gh [AV.rf 0 0, AV.mp 1, AV.mp 2, AV.mp 3]]) := by kernel_rfl
theorem rSide (us : List BA) (sd : Sds) (nm : Nms) (vs : Vss) (u c : BA) (q : AV → List Ob → Prop) :
  (aCode Tryd.K [] Tryd.b23 (kRetF Tryd.K Tryd.f23.results.toList q) ⟨[.rf 0 0, mkS u, mkS c] ++ List.replicate (Tryd.f23.ntmps - 3) .jk, bkO us sd nm vs⟩) = (
  ∃ (n : Int),
  ∃ (b : Bool),
  ∃ (b_1 : Bool),
  ((getO (Key.ss [u, c]) (sdE sd) (AV.ag [mkI .i64 (0 : Int), mkB false, mkB false])) = (AV.ag [mkI .i64 n, mkB b, mkB b_1])) ∧
  q (AV.ag [mkI .i64 n, mkB b, mkB b_1]) [Ob.box [mkSS us, AV.mp 1, AV.mp 2, AV.mp 3], Ob.map (KK.ystrs 2) (sdE sd), Ob.map (KK.ystrs 2) (nmE nm), Ob.map KK.ystr (vsE vs), Ob.gh [AV.rf 0 0, AV.mp 1, AV.mp 2, AV.mp 3], Ob.box [mkI .i64 n, mkB b, mkB b_1]]) := by kernel_rfl
/-- What a pair's side is; the name of a contact, and whether it is one. -/
def sideOf (sd : Sds) (u c : BA) : Sd := (alk (u, c) sd).getD Sd.zero
def isC (nm : Nms) (u c : BA) : Bool := (alk (u, c) nm).isSome
def nameOf (nm : Nms) (u c : BA) : BA := (alk (u, c) nm).getD ⟨#[]⟩
def verOf (vs : Vss) (u : BA) : Int := (alk u vs).getD 0
theorem nm_has (nm : Nms) (u c : BA) : hasK (Key.ss [u, c]) (nmE nm) = isC nm u c := enc_has ssK_inj (u, c) nm
theorem nm_get (nm : Nms) (u c : BA) : getO (Key.ss [u, c]) (nmE nm) (mkS ⟨#[]⟩) = mkS (nameOf nm u c) := by
  show ((findKeyA (ssK (u, c)) (encM ssK mkS nm)).getD (mkS ⟨#[]⟩)) = _
  rw [enc_find ssK_inj]
  cases h : alk (u, c) nm <;> simp [nameOf, h]
theorem nm_none {nm : Nms} {u c : BA} (h : isC nm u c = false) : nameOf nm u c = ⟨#[]⟩ := by
  unfold isC at h
  cases hx : alk (u, c) nm with
  | none => simp [nameOf, hx]
  | some x => rw [hx] at h; cases h
theorem sd_get (sd : Sds) (u c : BA) : getO (Key.ss [u, c]) (sdE sd) (AV.ag [mkI .i64 0, mkB false, mkB false]) = AV.ag [mkI .i64 (sideOf sd u c).sub, mkB (sideOf sd u c).a, mkB (sideOf sd u c).w] := by
  show ((findKeyA (ssK (u, c)) (encM ssK mkSd sd)).getD (mkSd Sd.zero)) = mkSd (sideOf sd u c)
  rw [enc_find ssK_inj]
  cases h : alk (u, c) sd <;> simp [sideOf, h]
theorem vs_get (vs : Vss) (u : BA) : getO (Key.s u) (vsE vs) (mkI .i64 0) = mkI .i64 (verOf vs u) := by
  show ((findKeyA (sK u) (encM sK (mkI .i64) vs)).getD (mkI .i64 0)) = _
  rw [enc_find sK_inj]
  cases h : alk u vs <;> simp [verOf, h]
theorem sd_set (sd : Sds) (u c : BA) (x : Sd) : setKeyA (Key.ss [u, c]) (AV.ag [mkI .i64 x.sub, mkB x.a, mkB x.w]) (sdE sd) = sdE (aset (u, c) x sd) := enc_set (ve := mkSd) ssK_inj (u, c) x sd
theorem nm_set (nm : Nms) (u c x : BA) : setKeyA (Key.ss [u, c]) (mkS x) (nmE nm) = nmE (aset (u, c) x nm) := enc_set (ve := mkS) ssK_inj (u, c) x nm
theorem nm_del (nm : Nms) (u c : BA) : delKeyA (Key.ss [u, c]) (nmE nm) = nmE (adel (u, c) nm) := enc_del (ve := mkS) ssK_inj (u, c) nm
theorem vs_set (vs : Vss) (u : BA) (x : Int) : setKeyA (Key.s u) (mkI .i64 x) (vsE vs) = vsE (aset u x vs) := enc_set (ve := mkI .i64) sK_inj u x vs
abbrev REnt := List AV → List Ob → (AV → List Ob → Prop) → Prop
theorem bk_trim {q : AV → List Ob → Prop} {av : AV} {us : List BA} {sd : Sds} {nm : Nms} {vs : Vss} {o : List Ob} (h : leR av av) (hf : av.fits 5 = true) (hq : q av (bkO us sd nm vs)) : trimR q av (bkO us sd nm vs ++ o) :=
  ⟨av, bkO us sd nm vs, h, by simp [leO, bkO], by simp [bkO, hf, Ob.fits, AV.fits, fitsL, mkSS, KK.isSy], hq⟩
def EKnows : REnt := fun al o q => ∃ us sd nm vs u, al = [.rf 0 0, mkS u] ∧ o = bkO us sd nm vs ∧ q (mkB (memB u us)) (bkO us sd nm vs)
theorem cKnows : RSound Tryd.prog 42 EKnows := by
  refine ref_fnR (c := Tryd.b42) mixed Tryd.K_ok (gsound_det c20 gsound_nil) Tryd.func42 rfl rfl Tryd.call42 fun al o q ⟨us, sd, nm, vs, u, h1, h2, hq⟩ => ?_
  subst h1 h2
  have e : unSS (strsD us) = us := unSS_strsD us
  refine cast (rKnows us sd nm vs u (trimR q)).symm ⟨by rw [e], ?_⟩
  rw [e]
  exact bk_trim (o := []) (leL_one _) rfl hq
def EContact : REnt := fun al o q => ∃ us sd nm vs u c, al = [.rf 0 0, mkS u, mkS c] ∧ o = bkO us sd nm vs ∧ q (.tp [mkS (nameOf nm u c), mkB (isC nm u c)]) (bkO us sd nm vs)
theorem cContact : RSound Tryd.prog 49 EContact := by
  refine ref_fnR (c := Tryd.b49) mixed Tryd.K_ok gsound_nil Tryd.func49 rfl rfl Tryd.call49 fun al o q ⟨us, sd, nm, vs, u, c, h1, h2, hq⟩ => ?_
  subst h1 h2
  refine cast (rContact us sd nm vs u c (trimR q)).symm ⟨_, nm_get nm u c, ?_⟩
  simp only [nm_has]
  exact bk_trim (o := []) (by simp [leR, leL]) rfl hq
def ESide : REnt := fun al o q => ∃ us sd nm vs u c, al = [.rf 0 0, mkS u, mkS c] ∧ o = bkO us sd nm vs ∧ q (mkSd (sideOf sd u c)) (bkO us sd nm vs)
theorem cSide : RSound Tryd.prog 23 ESide := by
  refine ref_fnR (c := Tryd.b23) mixed Tryd.K_ok gsound_nil Tryd.func23 rfl rfl Tryd.call23 fun al o q ⟨us, sd, nm, vs, u, c, h1, h2, hq⟩ => ?_
  subst h1 h2
  exact cast (rSide us sd nm vs u c (trimR q)).symm ⟨_, _, _, sd_get sd u c, bk_trim (leL_one _) rfl hq⟩
/-- An item. -/
structure It where
  c : BA
  n : BA
  s : Int
  a : Bool
  deriving DecidableEq
def itD (x : It) : List D := [.v (.string x.c), .v (.string x.n), .v (.int .i64 x.s), .v (.bool x.a)]
def itsD (l : List It) : List (List D) := l.map itD
theorem itsD_snoc (l : List It) (x : It) : itsD l ++ [itD x] = itsD (l ++ [x]) := by simp [itsD]
def itemOf (sd : Sds) (nm : Nms) (u c : BA) : List It := if isC nm u c then [⟨c, nameOf nm u c, (sideOf sd u c).sub, (sideOf sd u c).a⟩] else []
def itemsM (us : List BA) (sd : Sds) (nm : Nms) (u : BA) : List It := us.flatMap (itemOf sd nm u)
noncomputable def rItems_k0 (q : AV → (List Ob) → Prop) : Kont := kBlk (0 : Nat) (kSeq (aCode Tryd.K [] (cAt [1, 1, 1] Tryd.b43) (kRetF Tryd.K (Array.toList (Func.results Tryd.f43)) q)) (kRetF Tryd.K (Array.toList (Func.results Tryd.f43)) q))
theorem rItems (us : List BA) (sd : Sds) (nm : Nms) (vs : Vss) (u : BA) (q : AV → List Ob → Prop) :
  (aCode Tryd.K [] Tryd.b43 (kRetF Tryd.K Tryd.f43.results.toList q) ⟨[.rf 0 0, mkS u] ++ List.replicate (Tryd.f43.ntmps - 2) .jk, bkO us sd nm vs⟩) = (
  ((List.length (strsD us)) ≤ LIM) →
  ALoop (aCode Tryd.K [] (cAt [1, 1, 0, 1, 0, 0] Tryd.b43)) (rItems_k0 q) ⟨[AV.rf 0 0, mkS u, AV.jk, AV.jk, AV.nl, AV.nl, AV.jk, AV.jk, AV.jk, AV.jk, AV.jk, AV.rf 0 0, AV.rf 0 0, AV.rf 0 (0 + 0), mkSS us, mkI .i64 ((List.length (strsD us)) : Int), mkI .i64 (0 : Int), AV.jk, AV.jk, AV.jk, AV.jk, AV.jk, AV.jk, AV.jk, AV.jk, AV.jk, AV.jk, AV.jk, AV.jk, AV.jk, AV.jk, AV.jk, AV.jk, AV.jk, AV.jk, AV.jk, AV.jk, AV.jk, AV.jk, AV.jk, AV.jk, AV.jk, AV.jk, AV.jk, AV.jk, AV.jk, AV.jk, AV.jk, AV.jk, AV.jk, AV.jk, AV.jk], [Ob.box [mkSS us, AV.mp 1, AV.mp 2, AV.mp 3], Ob.map (KK.ystrs 2) (sdE sd), Ob.map (KK.ystrs 2) (nmE nm), Ob.map KK.ystr (vsE vs), Ob.gh [AV.rf 0 0, AV.mp 1, AV.mp 2, AV.mp 3]]⟩) := by kernel_rfl
def stI (us : List BA) (sd : Sds) (nm : Nms) (vs : Vss) (u : BA) (its : List It) (i : Int) : S := ⟨[.rf 0 0, mkS u, .jk, .jk, .jk, .vw 5 (itsD its).length] ++ jks 8 ++ [mkSS us, mkI .i64 us.length, mkI .i64 i] ++ jks 35, bkO us sd nm vs ++ [.row 4 (itsD its)]⟩
theorem rItems_b {ι : Type} (st : ι → S) (inv : ι → Prop) (μ : ι → Nat) (k : ι) (us : List BA) (sd : Sds) (nm : Nms) (vs : Vss) (u : BA) (its : List It) (i : Int) (q : AV → List Ob → Prop) :
  (aCode Tryd.K [] (cAt [1, 1, 0, 1, 0, 0] Tryd.b43) (kFamM [] (maskOf (stI us sd nm vs u its i)) st inv μ k (rItems_k0 q)) (stI us sd nm vs u its i)) = (
  bcase (decide (i < ((List.length us) : Int))) (
   (((0 : Int) ≤ i) ∧ (i < ((List.length (strsD us)) : Int))) ∧
   ((List.length (List.getD (strsD us) (Int.toNat i) [])) = 1) ∧
   ((1 : Nat) ≤ (List.length (List.getD (strsD us) (Int.toNat i) []))) ∧
   ((List.getD (List.getD (strsD us) (Int.toNat i) []) (0 : Nat) d0) = (D.v (.string (strD (List.getD (List.getD (strsD us) (Int.toNat i) []) (0 : Nat) d0))))) ∧ (
    ∃ (s : ByteArray),
    ((getO (Key.ss [u, strD (List.getD (List.getD (strsD us) (Int.toNat i) []) (0 : Nat) d0)]) (nmE nm) (mkS (⟨#[]⟩ : ByteArray))) = (mkS s)) ∧
    bcase (hasK (Key.ss [u, strD (List.getD (List.getD (strsD us) (Int.toNat i) []) (0 : Nat) d0)]) (nmE nm)) (
     ∃ (n : Int),
     ∃ (b : Bool),
     ∃ (b_1 : Bool),
     ((getO (Key.ss [u, strD (List.getD (List.getD (strsD us) (Int.toNat i) []) (0 : Nat) d0)]) (sdE sd) (AV.ag [mkI .i64 (0 : Int), mkB false, mkB false])) = (AV.ag [mkI .i64 n, mkB b, mkB b_1])) ∧
     (∀ (c : List D), (c ∈ [[D.v (.string (strD (List.getD (List.getD (strsD us) (Int.toNat i) []) (0 : Nat) d0))), D.v (.string s), D.v (.int .i64 n), D.v (.bool b)]]) → (List.length c) = 4) ∧
     ((List.length (itsD its)) = (List.length (itsD its))) ∧
     (((List.length (itsD its)) + 1) ≤ LIM) ∧
     FamNext st inv μ k ⟨[AV.rf 0 0, mkS u, AV.jk, AV.jk, AV.jk, AV.vw 5 ((List.length (itsD its)) + 1), AV.jk, AV.jk, AV.jk, AV.jk, AV.jk, AV.jk, AV.jk, AV.jk, AV.d (.sl (strsD us)), mkI .i64 ((List.length us) : Int), mkI .i64 (IntKind.wrap .i64 (i + (1 : Int))), AV.jk, AV.jk, AV.jk, AV.jk, AV.jk, AV.jk, AV.jk, AV.jk, AV.jk, AV.jk, AV.jk, AV.jk, AV.jk, AV.jk, AV.jk, AV.jk, AV.jk, AV.jk, AV.jk, AV.jk, AV.jk, AV.jk, AV.jk, AV.jk, AV.jk, AV.jk, AV.jk, AV.jk, AV.jk, AV.jk, AV.jk, AV.jk, AV.jk, AV.jk, AV.jk], [Ob.box [AV.d (.sl (strsD us)), AV.mp 1, AV.mp 2, AV.mp 3], Ob.map (KK.ystrs 2) (sdE sd), Ob.map (KK.ystrs 2) (nmE nm), Ob.map KK.ystr (vsE vs), Ob.gh [AV.rf 0 0, AV.mp 1, AV.mp 2, AV.mp 3], Ob.row 4 ((itsD its) ++ [[D.v (.string (strD (List.getD (List.getD (strsD us) (Int.toNat i) []) (0 : Nat) d0))), D.v (.string s), D.v (.int .i64 n), D.v (.bool b)]]), Ob.box [mkI .i64 n, mkB b, mkB b_1], Ob.row 4 [[D.v (.string (strD (List.getD (List.getD (strsD us) (Int.toNat i) []) (0 : Nat) d0))), D.v (.string s), D.v (.int .i64 n), D.v (.bool b)]]]⟩) (
     FamNext st inv μ k ⟨[AV.rf 0 0, mkS u, AV.jk, AV.jk, AV.jk, AV.vw 5 (List.length (itsD its)), AV.jk, AV.jk, AV.jk, AV.jk, AV.jk, AV.jk, AV.jk, AV.jk, mkSS us, mkI .i64 ((List.length us) : Int), mkI .i64 (IntKind.wrap .i64 (i + (1 : Int))), AV.jk, AV.jk, AV.jk, AV.jk, AV.jk, AV.jk, AV.jk, AV.jk, AV.jk, AV.jk, AV.jk, AV.jk, AV.jk, AV.jk, AV.jk, AV.jk, AV.jk, AV.jk, AV.jk, AV.jk, AV.jk, AV.jk, AV.jk, AV.jk, AV.jk, AV.jk, AV.jk, AV.jk, AV.jk, AV.jk, AV.jk, AV.jk, AV.jk, AV.jk, AV.jk], [Ob.box [mkSS us, AV.mp 1, AV.mp 2, AV.mp 3], Ob.map (KK.ystrs 2) (sdE sd), Ob.map (KK.ystrs 2) (nmE nm), Ob.map KK.ystr (vsE vs), Ob.gh [AV.rf 0 0, AV.mp 1, AV.mp 2, AV.mp 3], Ob.row 4 (itsD its)]⟩))) (
   q (AV.vw 5 (List.length (itsD its))) [Ob.box [mkSS us, AV.mp 1, AV.mp 2, AV.mp 3], Ob.map (KK.ystrs 2) (sdE sd), Ob.map (KK.ystrs 2) (nmE nm), Ob.map KK.ystr (vsE vs), Ob.gh [AV.rf 0 0, AV.mp 1, AV.mp 2, AV.mp 3], Ob.row 4 (itsD its)])) := by kernel_rfl
def itN (us : List BA) (sd : Sds) (nm : Nms) (u : BA) (n : Nat) : List It := (us.take n).flatMap (itemOf sd nm u)
theorem itN_succ {us : List BA} (sd : Sds) (nm : Nms) (u : BA) {n : Nat} (h : n < us.length) : itN us sd nm u (n + 1) = itN us sd nm u n ++ itemOf sd nm u (us.getD n ⟨#[]⟩) := by
  unfold itN
  rw [List.take_add_one, List.flatMap_append, List.getD_eq_getElem?_getD, List.getElem?_eq_getElem h]
  simp
theorem itN_all (us : List BA) (sd : Sds) (nm : Nms) (u : BA) : itN us sd nm u us.length = itemsM us sd nm u := by simp [itN, itemsM]
theorem itemOf_len (sd : Sds) (nm : Nms) (u c : BA) : (itemOf sd nm u c).length ≤ 1 := by unfold itemOf; split <;> simp
theorem itN_len (us : List BA) (sd : Sds) (nm : Nms) (u : BA) : ∀ n, (itN us sd nm u n).length ≤ n
  | 0 => by simp [itN]
  | n + 1 => by
    rcases Nat.lt_or_ge n us.length with h | h
    · rw [itN_succ sd nm u h, List.length_append]
      have := itN_len us sd nm u n
      have := itemOf_len sd nm u (us.getD n ⟨#[]⟩)
      omega
    · have e : itN us sd nm u (n + 1) = itN us sd nm u n := by
        unfold itN; rw [List.take_of_length_le (by omega), List.take_of_length_le (by omega)]
      rw [e]
      have := itN_len us sd nm u n
      omega
theorem itsD_len (l : List It) : (itsD l).length = l.length := by simp [itsD]
def EItems0 : REnt := fun al o q => ∃ us sd nm vs u, al = [.rf 0 0, mkS u] ∧ o = bkO us sd nm vs ∧ q (.d (.sl (itsD (itemsM us sd nm u)))) (bkO us sd nm vs)
theorem cItems0 : RSound Tryd.prog 43 EItems0 := by
  refine ref_fnZ (c := Tryd.b43) mixed Tryd.K_ok gsound_nil Tryd.func43 rfl rfl Tryd.call43 fun al o q ⟨us, sd, nm, vs, u, h1, h2, hq⟩ => ?_
  subst h1 h2
  refine cast (rItems us sd nm vs u (trimZ q)).symm fun hl => ?_
  rw [strsD_length] at hl
  refine ALoop.openT 5 4 (by omega) (ALoop.introM [] (maskOf (stI us sd nm vs u [] 0)) (fun n : Nat => stI us sd nm vs u (itN us sd nm u n) n) (fun n => n ≤ us.length) (fun n => us.length - n) ⟨[], 0, ?_, Nat.zero_le _⟩ fun n hn => ?_)
  · simp [S.le, sealAll, S.openT, leL, leO, jks, stI, bkO, itN, itsD]
  · refine cast (rItems_b _ _ _ n us sd nm vs u (itN us sd nm u n) n (trimZ q)).symm (bcase_dec (fun hlt => ?_) (fun hge => ?_))
    · have hlt : n < us.length := by omega
      have hit := itN_len us sd nm u n
      have hgd := strsD_getD us n hlt
      have hsucc := itN_succ sd nm u hlt
      have hw := wrap_succ hlt hl
      generalize us.getD n ⟨#[]⟩ = c at hgd hsucc
      simp only [Int.toNat_natCast, hgd, List.getD_cons_zero, strD, nm_has]
      refine ⟨⟨by omega, by rw [strsD_length]; omega⟩, by trivial, Nat.le_refl _, by trivial, _, nm_get nm u c, bcase_mk (fun h => ?_) (fun h => ?_)⟩
      · have e : itemOf sd nm u c = [⟨c, nameOf nm u c, (sideOf sd u c).sub, (sideOf sd u c).a⟩] := by simp [itemOf, h]
        rw [e] at hsucc
        have fin : ∀ (rest : List Ob), FamNext (fun n : Nat => stI us sd nm vs u (itN us sd nm u n) n) (fun n => n ≤ us.length) (fun n => us.length - n) n ⟨[.rf 0 0, mkS u, .jk, .jk, .jk, .vw 5 ((itsD (itN us sd nm u n)).length + 1)] ++ jks 8 ++ [mkSS us, mkI .i64 us.length, mkI .i64 (IntKind.i64.wrap ((n : Int) + 1))] ++ jks 35, bkO us sd nm vs ++ [.row 4 (itsD (itN us sd nm u n) ++ [itD ⟨c, nameOf nm u c, (sideOf sd u c).sub, (sideOf sd u c).a⟩])] ++ rest⟩ := by
          intro rest
          refine .mk [] (n + 1) ?_ (by omega) (by omega)
          rw [hw, itsD_snoc, ← hsucc]
          simp [S.le, sealAll, leL, leO, jks, stI, bkO, S.fits, fitsL, AV.fits, Ob.fits, KK.isSy, mkSS, itsD_len, hsucc]
        exact ⟨_, _, _, sd_get sd u c, by simp, by trivial, by rw [itsD_len]; omega, fin _⟩
      · have e : itemOf sd nm u c = [] := by simp [itemOf, h]
        rw [e, List.append_nil] at hsucc
        refine .mk [] (n + 1) ?_ (by omega) (by omega)
        rw [hw]
        simp [S.le, sealAll, leL, leO, jks, stI, bkO, S.fits, fitsL, AV.fits, Ob.fits, KK.isSy, mkSS, itsD_len, hsucc]
    · have e : n = us.length := by omega
      subst e
      rw [itN_all]
      refine ⟨[5], ?_⟩
      simp only [sealAll, S.sealR, List.getElem?_cons_succ, List.getElem?_cons_zero]
      refine bk_trim (o := [.gone]) (leL_one _) rfl ?_
      simp only [AV.sub, if_true, List.take_length]
      exact hq
end Go.Proofs.YtldcalmoboeeiaaDoor

namespace Go.Proofs.YtldcalmoboeeiaaDoor
open Go Go.AM Go.RowKit
attribute [local irreducible] aCode aUnr aUnS aOut
noncomputable abbrev GI : List (FuncId × En) := [(42, .ref (frameX EKnows)), (43, .ref (frameX EItems0)), (49, .ref (frameX EContact))]
theorem rItemsB (us : List BA) (sd : Sds) (nm : Nms) (vs : Vss) (u : BA) (q : AV → List Ob → Prop) :
  (aCode Tryd.K GI Tryd.b15 (kRetF Tryd.K Tryd.f15.results.toList q) ⟨[.rf 0 0, mkS u] ++ List.replicate (Tryd.f15.ntmps - 2) .jk, bkO us sd nm vs⟩) = (
  ∃ (us_1 : List BA),
  ∃ (sd_1 : Sds),
  ∃ (nm_1 : Nms),
  ∃ (vs_1 : Vss),
  ∃ (u_1 : ByteArray),
  ([AV.rf 0 0, mkS u] = [AV.rf 0 0, mkS u_1]) ∧
  ([Ob.box [AV.d (.sl (strsD us)), AV.mp (0 + 1), AV.mp ((0 + 1) + 1), AV.mp (((0 + 1) + 1) + 1)], Ob.map (KK.ystrs 2) (sdE sd), Ob.map (KK.ystrs 2) (nmE nm), Ob.map KK.ystr (vsE vs), Ob.gh [AV.rf 0 0, AV.mp (0 + 1), AV.mp ((0 + 1) + 1), AV.mp (((0 + 1) + 1) + 1)]] = [Ob.box [mkSS us_1, AV.mp 1, AV.mp 2, AV.mp 3], Ob.map (KK.ystrs 2) (sdE sd_1), Ob.map (KK.ystrs 2) (nmE nm_1), Ob.map KK.ystr (vsE vs_1), Ob.gh [AV.rf 0 0, AV.mp 1, AV.mp 2, AV.mp 3]]) ∧
  ((Option.some (Ob.gh [AV.rf 0 0, AV.mp 1, AV.mp 2, AV.mp 3])) = (Option.some (Ob.gh [AV.rf 0 0, AV.mp (0 + 1), AV.mp ((0 + 1) + 1), AV.mp (((0 + 1) + 1) + 1)]))) ∧
  bcase (!(memB u_1 us_1)) (
   q (AV.tp [AV.nl, mkI .i64 (0 : Int), mkI .i64 (7 : Int)]) [Ob.box [AV.d (.sl (strsD us_1)), AV.mp (if 1 < 4 then 1 else 6 + (1 - 4)), AV.mp (if 2 < 4 then 2 else 6 + (2 - 4)), AV.mp (if 3 < 4 then 3 else 6 + (3 - 4))], Ob.map (KK.ystrs 2) (sdE sd_1), Ob.map (KK.ystrs 2) (nmE nm_1), Ob.map KK.ystr (vsE vs_1), Ob.gh [AV.rf 0 0, AV.mp 1, AV.mp 2, AV.mp 3], Ob.gone, Ob.gone]) (
   (∃ (us_2 : List BA), ∃ (sd_2 : Sds), ∃ (nm_2 : Nms), ∃ (vs_2 : Vss), ∃ (u_2 : ByteArray), ([AV.rf 0 0, mkS u] = [AV.rf 0 0, mkS u_2]) ∧ (([Ob.box [AV.d (.sl (strsD us_1)), AV.mp (0 + 1), AV.mp ((0 + 1) + 1), AV.mp (((0 + 1) + 1) + 1)], Ob.map (KK.ystrs 2) (sdE sd_1), Ob.map (KK.ystrs 2) (nmE nm_1), Ob.map KK.ystr (vsE vs_1), Ob.gh [AV.rf 0 0, AV.mp (0 + 1), AV.mp ((0 + 1) + 1), AV.mp (((0 + 1) + 1) + 1)]] = [Ob.box [mkSS us_2, AV.mp 1, AV.mp 2, AV.mp 3], Ob.map (KK.ystrs 2) (sdE sd_2), Ob.map (KK.ystrs 2) (nmE nm_2), Ob.map KK.ystr (vsE vs_2), Ob.gh [AV.rf 0 0, AV.mp 1, AV.mp 2, AV.mp 3]]) ∧ (((Option.some (Ob.gh [AV.rf 0 0, AV.mp 1, AV.mp 2, AV.mp 3])) = (Option.some (Ob.gh [AV.rf 0 0, AV.mp (0 + 1), AV.mp ((0 + 1) + 1), AV.mp (((0 + 1) + 1) + 1)]))) ∧ (∃ (n : Int), ((getO (Key.s u) (vsE vs_2) (mkI .i64 (0 : Int))) = (mkI .i64 n)) ∧ (q (AV.tp [AV.d (.sl (itsD (itemsM us_2 sd_2 nm_2 u_2))), mkI .i64 n, mkI .i64 (0 : Int)]) [Ob.box [AV.d (.sl (strsD us_2)), AV.mp (if 1 < 4 then 1 else 8 + (1 - 4)), AV.mp (if 2 < 4 then 2 else 8 + (2 - 4)), AV.mp (if 3 < 4 then 3 else 8 + (3 - 4))], Ob.map (KK.ystrs 2) (sdE sd_2), Ob.map (KK.ystrs 2) (nmE nm_2), Ob.map KK.ystr (vsE vs_2), Ob.gh [AV.rf 0 0, AV.mp 1, AV.mp 2, AV.mp 3], Ob.gone, Ob.gone, Ob.gone, Ob.gone]))))) ∧
   (∃ (us_2 : List BA), ∃ (sd_2 : Sds), ∃ (nm_2 : Nms), ∃ (vs_2 : Vss), ∃ (u_2 : ByteArray), ([AV.rf 0 0, mkS u] = [AV.rf 0 0, mkS u_2]) ∧ (([Ob.box [AV.d (.sl (strsD us_1)), AV.mp (0 + 1), AV.mp ((0 + 1) + 1), AV.mp (((0 + 1) + 1) + 1)], Ob.map (KK.ystrs 2) (sdE sd_1), Ob.map (KK.ystrs 2) (nmE nm_1), Ob.map KK.ystr (vsE vs_1), Ob.gh [AV.rf 0 0, AV.mp (0 + 1), AV.mp ((0 + 1) + 1), AV.mp (((0 + 1) + 1) + 1)]] = [Ob.box [mkSS us_2, AV.mp 1, AV.mp 2, AV.mp 3], Ob.map (KK.ystrs 2) (sdE sd_2), Ob.map (KK.ystrs 2) (nmE nm_2), Ob.map KK.ystr (vsE vs_2), Ob.gh [AV.rf 0 0, AV.mp 1, AV.mp 2, AV.mp 3]]) ∧ (((Option.some (Ob.gh [AV.rf 0 0, AV.mp 1, AV.mp 2, AV.mp 3])) = (Option.some (Ob.gh [AV.rf 0 0, AV.mp (0 + 1), AV.mp ((0 + 1) + 1), AV.mp (((0 + 1) + 1) + 1)]))) ∧ (∃ (n : Int), ((getO (Key.s u) (vsE vs_2) (mkI .i64 (0 : Int))) = (mkI .i64 n)) ∧ (q (AV.tp [AV.d (.sl (itsD (itemsM us_2 sd_2 nm_2 u_2))), mkI .i64 n, mkI .i64 (0 : Int)]) [Ob.box [AV.d (.sl (strsD us_2)), AV.mp (if 1 < 4 then 1 else 8 + (1 - 4)), AV.mp (if 2 < 4 then 2 else 8 + (2 - 4)), AV.mp (if 3 < 4 then 3 else 8 + (3 - 4))], Ob.map (KK.ystrs 2) (sdE sd_2), Ob.map (KK.ystrs 2) (nmE nm_2), Ob.map KK.ystr (vsE vs_2), Ob.gh [AV.rf 0 0, AV.mp 1, AV.mp 2, AV.mp 3], Ob.gone, Ob.gone, Ob.gone, Ob.gone]))))) ∧ (
    ∃ (n : Int),
    ((getO (Key.s u) (vsE vs_1) (mkI .i64 (0 : Int))) = (mkI .i64 n)) ∧ (
     ∃ (us_2 : List BA),
     ∃ (sd_2 : Sds),
     ∃ (nm_2 : Nms),
     ∃ (vs_2 : Vss),
     ∃ (u_2 : ByteArray),
     ([AV.rf 0 0, mkS u] = [AV.rf 0 0, mkS u_2]) ∧
     ([Ob.box [AV.d (.sl (strsD us_1)), AV.mp (0 + 1), AV.mp ((0 + 1) + 1), AV.mp (((0 + 1) + 1) + 1)], Ob.map (KK.ystrs 2) (sdE sd_1), Ob.map (KK.ystrs 2) (nmE nm_1), Ob.map KK.ystr (vsE vs_1), Ob.gh [AV.rf 0 0, AV.mp (0 + 1), AV.mp ((0 + 1) + 1), AV.mp (((0 + 1) + 1) + 1)]] = [Ob.box [mkSS us_2, AV.mp 1, AV.mp 2, AV.mp 3], Ob.map (KK.ystrs 2) (sdE sd_2), Ob.map (KK.ystrs 2) (nmE nm_2), Ob.map KK.ystr (vsE vs_2), Ob.gh [AV.rf 0 0, AV.mp 1, AV.mp 2, AV.mp 3]]) ∧
     ((Option.some (Ob.gh [AV.rf 0 0, AV.mp 1, AV.mp 2, AV.mp 3])) = (Option.some (Ob.gh [AV.rf 0 0, AV.mp (0 + 1), AV.mp ((0 + 1) + 1), AV.mp (((0 + 1) + 1) + 1)]))) ∧
     q (AV.tp [AV.d (.sl (itsD (itemsM us_2 sd_2 nm_2 u_2))), mkI .i64 n, mkI .i64 (0 : Int)]) [Ob.box [AV.d (.sl (strsD us_2)), AV.mp (if 1 < 4 then 1 else 8 + (1 - 4)), AV.mp (if 2 < 4 then 2 else 8 + (2 - 4)), AV.mp (if 3 < 4 then 3 else 8 + (3 - 4))], Ob.map (KK.ystrs 2) (sdE sd_2), Ob.map (KK.ystrs 2) (nmE nm_2), Ob.map KK.ystr (vsE vs_2), Ob.gh [AV.rf 0 0, AV.mp 1, AV.mp 2, AV.mp 3], Ob.gone, Ob.gone, Ob.gone, Ob.gone])))) := by kernel_rfl
theorem rMay (us : List BA) (sd : Sds) (nm : Nms) (vs : Vss) (u c : BA) (fine more : Bool) (q : AV → List Ob → Prop) :
  (aCode Tryd.K GI Tryd.b45 (kRetF Tryd.K Tryd.f45.results.toList q) ⟨[.rf 0 0, mkS u, mkS c, mkB fine, mkB more] ++ List.replicate (Tryd.f45.ntmps - 5) .jk, bkO us sd nm vs⟩) = (
  ∃ (us_1 : List BA),
  ∃ (sd_1 : Sds),
  ∃ (nm_1 : Nms),
  ∃ (vs_1 : Vss),
  ∃ (u_1 : ByteArray),
  ∃ (c_1 : ByteArray),
  ([AV.rf 0 0, mkS u, mkS c] = [AV.rf 0 0, mkS u_1, mkS c_1]) ∧
  ([Ob.box [AV.d (.sl (strsD us)), AV.mp (0 + 1), AV.mp ((0 + 1) + 1), AV.mp (((0 + 1) + 1) + 1)], Ob.map (KK.ystrs 2) (sdE sd), Ob.map (KK.ystrs 2) (nmE nm), Ob.map KK.ystr (vsE vs), Ob.gh [AV.rf 0 0, AV.mp (0 + 1), AV.mp ((0 + 1) + 1), AV.mp (((0 + 1) + 1) + 1)]] = [Ob.box [mkSS us_1, AV.mp 1, AV.mp 2, AV.mp 3], Ob.map (KK.ystrs 2) (sdE sd_1), Ob.map (KK.ystrs 2) (nmE nm_1), Ob.map KK.ystr (vsE vs_1), Ob.gh [AV.rf 0 0, AV.mp 1, AV.mp 2, AV.mp 3]]) ∧
  ((Option.some (Ob.gh [AV.rf 0 0, AV.mp 1, AV.mp 2, AV.mp 3])) = (Option.some (Ob.gh [AV.rf 0 0, AV.mp (0 + 1), AV.mp ((0 + 1) + 1), AV.mp (((0 + 1) + 1) + 1)]))) ∧ (
   ∃ (us_2 : List BA),
   ∃ (sd_2 : Sds),
   ∃ (nm_2 : Nms),
   ∃ (vs_2 : Vss),
   ∃ (u_2 : ByteArray),
   ([AV.rf 0 0, mkS u] = [AV.rf 0 0, mkS u_2]) ∧
   ([Ob.box [AV.d (.sl (strsD us_1)), AV.mp (0 + 1), AV.mp ((0 + 1) + 1), AV.mp (((0 + 1) + 1) + 1)], Ob.map (KK.ystrs 2) (sdE sd_1), Ob.map (KK.ystrs 2) (nmE nm_1), Ob.map KK.ystr (vsE vs_1), Ob.gh [AV.rf 0 0, AV.mp (0 + 1), AV.mp ((0 + 1) + 1), AV.mp (((0 + 1) + 1) + 1)]] = [Ob.box [mkSS us_2, AV.mp 1, AV.mp 2, AV.mp 3], Ob.map (KK.ystrs 2) (sdE sd_2), Ob.map (KK.ystrs 2) (nmE nm_2), Ob.map KK.ystr (vsE vs_2), Ob.gh [AV.rf 0 0, AV.mp 1, AV.mp 2, AV.mp 3]]) ∧
   ((Option.some (Ob.gh [AV.rf 0 0, AV.mp 1, AV.mp 2, AV.mp 3])) = (Option.some (Ob.gh [AV.rf 0 0, AV.mp (0 + 1), AV.mp ((0 + 1) + 1), AV.mp (((0 + 1) + 1) + 1)]))) ∧
   bcase (!(memB u_2 us_2)) (
    q (mkI .i64 (7 : Int)) [Ob.box [AV.d (.sl (strsD us_2)), AV.mp (if 1 < 4 then 1 else 8 + (1 - 4)), AV.mp (if 2 < 4 then 2 else 8 + (2 - 4)), AV.mp (if 3 < 4 then 3 else 8 + (3 - 4))], Ob.map (KK.ystrs 2) (sdE sd_2), Ob.map (KK.ystrs 2) (nmE nm_2), Ob.map KK.ystr (vsE vs_2), Ob.gh [AV.rf 0 0, AV.mp 1, AV.mp 2, AV.mp 3], Ob.gone, Ob.gone, Ob.gone, Ob.gone]) (
    ∃ (us_3 : List BA),
    ∃ (sd_3 : Sds),
    ∃ (nm_3 : Nms),
    ∃ (vs_3 : Vss),
    ∃ (u_3 : ByteArray),
    ([AV.rf 0 0, mkS c] = [AV.rf 0 0, mkS u_3]) ∧
    ([Ob.box [AV.d (.sl (strsD us_2)), AV.mp (0 + 1), AV.mp ((0 + 1) + 1), AV.mp (((0 + 1) + 1) + 1)], Ob.map (KK.ystrs 2) (sdE sd_2), Ob.map (KK.ystrs 2) (nmE nm_2), Ob.map KK.ystr (vsE vs_2), Ob.gh [AV.rf 0 0, AV.mp (0 + 1), AV.mp ((0 + 1) + 1), AV.mp (((0 + 1) + 1) + 1)]] = [Ob.box [mkSS us_3, AV.mp 1, AV.mp 2, AV.mp 3], Ob.map (KK.ystrs 2) (sdE sd_3), Ob.map (KK.ystrs 2) (nmE nm_3), Ob.map KK.ystr (vsE vs_3), Ob.gh [AV.rf 0 0, AV.mp 1, AV.mp 2, AV.mp 3]]) ∧
    ((Option.some (Ob.gh [AV.rf 0 0, AV.mp 1, AV.mp 2, AV.mp 3])) = (Option.some (Ob.gh [AV.rf 0 0, AV.mp (0 + 1), AV.mp ((0 + 1) + 1), AV.mp (((0 + 1) + 1) + 1)]))) ∧
    bcase (!(memB u_3 us_3)) (
     q (mkI .i64 (7 : Int)) [Ob.box [AV.d (.sl (strsD us_3)), AV.mp (if 1 < 4 then 1 else 10 + (1 - 4)), AV.mp (if 2 < 4 then 2 else 10 + (2 - 4)), AV.mp (if 3 < 4 then 3 else 10 + (3 - 4))], Ob.map (KK.ystrs 2) (sdE sd_3), Ob.map (KK.ystrs 2) (nmE nm_3), Ob.map KK.ystr (vsE vs_3), Ob.gh [AV.rf 0 0, AV.mp 1, AV.mp 2, AV.mp 3], Ob.gone, Ob.gone, Ob.gone, Ob.gone, Ob.gone, Ob.gone]) (
     bcase (decide (u = c)) (
      q (mkI .i64 (1 : Int)) [Ob.box [AV.d (.sl (strsD us_3)), AV.mp (if 1 < 4 then 1 else 10 + (1 - 4)), AV.mp (if 2 < 4 then 2 else 10 + (2 - 4)), AV.mp (if 3 < 4 then 3 else 10 + (3 - 4))], Ob.map (KK.ystrs 2) (sdE sd_3), Ob.map (KK.ystrs 2) (nmE nm_3), Ob.map KK.ystr (vsE vs_3), Ob.gh [AV.rf 0 0, AV.mp 1, AV.mp 2, AV.mp 3], Ob.gone, Ob.gone, Ob.gone, Ob.gone, Ob.gone, Ob.gone]) (
      bcase (!fine) (
       q (mkI .i64 (1 : Int)) [Ob.box [AV.d (.sl (strsD us_3)), AV.mp (if 1 < 4 then 1 else 10 + (1 - 4)), AV.mp (if 2 < 4 then 2 else 10 + (2 - 4)), AV.mp (if 3 < 4 then 3 else 10 + (3 - 4))], Ob.map (KK.ystrs 2) (sdE sd_3), Ob.map (KK.ystrs 2) (nmE nm_3), Ob.map KK.ystr (vsE vs_3), Ob.gh [AV.rf 0 0, AV.mp 1, AV.mp 2, AV.mp 3], Ob.gone, Ob.gone, Ob.gone, Ob.gone, Ob.gone, Ob.gone]) (
       bcase more (
        bcase (!(isC nm_1 u_1 c_1)) (
         ∃ (us_4 : List BA),
         ∃ (sd_4 : Sds),
         ∃ (nm_4 : Nms),
         ∃ (vs_4 : Vss),
         ∃ (u_4 : ByteArray),
         ([AV.rf 0 0, mkS u] = [AV.rf 0 0, mkS u_4]) ∧
         ([Ob.box [AV.d (.sl (strsD us_3)), AV.mp (0 + 1), AV.mp ((0 + 1) + 1), AV.mp (((0 + 1) + 1) + 1)], Ob.map (KK.ystrs 2) (sdE sd_3), Ob.map (KK.ystrs 2) (nmE nm_3), Ob.map KK.ystr (vsE vs_3), Ob.gh [AV.rf 0 0, AV.mp (0 + 1), AV.mp ((0 + 1) + 1), AV.mp (((0 + 1) + 1) + 1)]] = [Ob.box [mkSS us_4, AV.mp 1, AV.mp 2, AV.mp 3], Ob.map (KK.ystrs 2) (sdE sd_4), Ob.map (KK.ystrs 2) (nmE nm_4), Ob.map KK.ystr (vsE vs_4), Ob.gh [AV.rf 0 0, AV.mp 1, AV.mp 2, AV.mp 3]]) ∧
         ((Option.some (Ob.gh [AV.rf 0 0, AV.mp 1, AV.mp 2, AV.mp 3])) = (Option.some (Ob.gh [AV.rf 0 0, AV.mp (0 + 1), AV.mp ((0 + 1) + 1), AV.mp (((0 + 1) + 1) + 1)]))) ∧ (
          ((List.length (itsD (itemsM us_4 sd_4 nm_4 u_4))) ≤ LIM) →
          bcase (decide (((List.length (itsD (itemsM us_4 sd_4 nm_4 u_4))) : Int) ≥ (6 : Int))) (
           q (mkI .i64 (9 : Int)) [Ob.box [AV.d (.sl (strsD us_4)), AV.mp (if 1 < 4 then 1 else 12 + (1 - 4)), AV.mp (if 2 < 4 then 2 else 12 + (2 - 4)), AV.mp (if 3 < 4 then 3 else 12 + (3 - 4))], Ob.map (KK.ystrs 2) (sdE sd_4), Ob.map (KK.ystrs 2) (nmE nm_4), Ob.map KK.ystr (vsE vs_4), Ob.gh [AV.rf 0 0, AV.mp 1, AV.mp 2, AV.mp 3], Ob.gone, Ob.gone, Ob.gone, Ob.gone, Ob.gone, Ob.gone, Ob.gone, Ob.gone]) (
           q (mkI .i64 (0 : Int)) [Ob.box [AV.d (.sl (strsD us_4)), AV.mp (if 1 < 4 then 1 else 12 + (1 - 4)), AV.mp (if 2 < 4 then 2 else 12 + (2 - 4)), AV.mp (if 3 < 4 then 3 else 12 + (3 - 4))], Ob.map (KK.ystrs 2) (sdE sd_4), Ob.map (KK.ystrs 2) (nmE nm_4), Ob.map KK.ystr (vsE vs_4), Ob.gh [AV.rf 0 0, AV.mp 1, AV.mp 2, AV.mp 3], Ob.gone, Ob.gone, Ob.gone, Ob.gone, Ob.gone, Ob.gone, Ob.gone, Ob.gone]))) (
         q (mkI .i64 (0 : Int)) [Ob.box [AV.d (.sl (strsD us_3)), AV.mp (if 1 < 4 then 1 else 10 + (1 - 4)), AV.mp (if 2 < 4 then 2 else 10 + (2 - 4)), AV.mp (if 3 < 4 then 3 else 10 + (3 - 4))], Ob.map (KK.ystrs 2) (sdE sd_3), Ob.map (KK.ystrs 2) (nmE nm_3), Ob.map KK.ystr (vsE vs_3), Ob.gh [AV.rf 0 0, AV.mp 1, AV.mp 2, AV.mp 3], Ob.gone, Ob.gone, Ob.gone, Ob.gone, Ob.gone, Ob.gone])) (
        q (mkI .i64 (0 : Int)) [Ob.box [AV.d (.sl (strsD us_3)), AV.mp (if 1 < 4 then 1 else 10 + (1 - 4)), AV.mp (if 2 < 4 then 2 else 10 + (2 - 4)), AV.mp (if 3 < 4 then 3 else 10 + (3 - 4))], Ob.map (KK.ystrs 2) (sdE sd_3), Ob.map (KK.ystrs 2) (nmE nm_3), Ob.map KK.ystr (vsE vs_3), Ob.gh [AV.rf 0 0, AV.mp 1, AV.mp 2, AV.mp 3], Ob.gone, Ob.gone, Ob.gone, Ob.gone, Ob.gone, Ob.gone]))))))) := by kernel_rfl
theorem gi_ok : GSound Tryd.prog GI := gsound_ref (RSound.frameX cKnows) (gsound_ref (RSound.frameX cItems0) (gsound_ref (RSound.frameX cContact) gsound_nil))
def EItems : REnt := fun al o q => ∃ us sd nm vs u, al = [.rf 0 0, mkS u] ∧ o = bkO us sd nm vs ∧
  q (.tp [.d (.sl (itsD (if memB u us then itemsM us sd nm u else []))), mkI .i64 (if memB u us then verOf vs u else 0), mkI .i64 (if memB u us then 0 else 7)]) (bkO us sd nm vs)
theorem cItems : RSound Tryd.prog 15 EItems := by
  refine ref_fnR (c := Tryd.b15) mixed Tryd.K_ok gi_ok Tryd.func15 rfl rfl Tryd.call15 fun al o q ⟨us, sd, nm, vs, u, h1, h2, hq⟩ => ?_
  subst h1 h2
  refine cast (rItemsB us sd nm vs u (trimR q)).symm ⟨us, sd, nm, vs, u, rfl, rfl, rfl, bcase_mk (fun h => ?_) (fun h => ?_)⟩
  · have h : memB u us = false := by simpa using h
    simp only [h, Bool.false_eq_true, if_false] at hq
    exact ⟨_, bkO us sd nm vs, by simp [leR, leL, itsD], by simp [leO, bkO, mkSS], by simp [bkO, Ob.fits, AV.fits, fitsL, mkSS, KK.isSy], hq⟩
  · have h : memB u us = true := by simpa using h
    simp only [h, if_true] at hq
    have fin : ∀ (rest : List Ob), trimR q (.tp [.d (.sl (itsD (itemsM us sd nm u))), mkI .i64 (verOf vs u), mkI .i64 0]) (bkO us sd nm vs ++ rest) := fun rest => bk_trim (by simp [leR, leL]) rfl hq
    repeat' (first | exact fin _ | (refine ⟨_, vs_get vs u, ?_⟩) | trivial | (refine And.intro ?_ ?_) | (refine ⟨us, sd, nm, vs, u, rfl, rfl, trivial, ?_⟩) | (refine ⟨us, sd, nm, vs, u, rfl, rfl, rfl, ?_⟩))
def mayM (us : List BA) (sd : Sds) (nm : Nms) (u c : BA) (fine more : Bool) : Int :=
  if memB u us = false then 7 else if memB c us = false then 7 else if u = c then 1 else if fine = false then 1
  else if more = true ∧ isC nm u c = false ∧ 6 ≤ (itemsM us sd nm u).length then 9 else 0
def EMay : REnt := fun al o q => ∃ us sd nm vs u c fine more, al = [.rf 0 0, mkS u, mkS c, mkB fine, mkB more] ∧ o = bkO us sd nm vs ∧ q (mkI .i64 (mayM us sd nm u c fine more)) (bkO us sd nm vs)
theorem cMay : RSound Tryd.prog 45 EMay := by
  refine ref_fnR (c := Tryd.b45) mixed Tryd.K_ok gi_ok Tryd.func45 rfl rfl Tryd.call45 fun al o q ⟨us, sd, nm, vs, u, c, fine, more, h1, h2, hq⟩ => ?_
  subst h1 h2
  have fin : ∀ (n : Int) (rest : List Ob), mayM us sd nm u c fine more = n → trimR q (mkI .i64 n) (bkO us sd nm vs ++ rest) := fun n rest e => bk_trim (leL_one _) rfl (by rw [← e]; exact hq)
  refine cast (rMay us sd nm vs u c fine more (trimR q)).symm ⟨us, sd, nm, vs, u, c, rfl, rfl, rfl, us, sd, nm, vs, u, rfl, rfl, rfl, bcase_mk (fun h1 => ?_) (fun h1 => ⟨us, sd, nm, vs, c, rfl, rfl, rfl, bcase_mk (fun h2 => ?_) (fun h2 => bcase_dec (fun h3 => ?_) (fun h3 => bcase_mk (fun h4 => ?_) (fun h4 => bcase_mk (fun h5 => bcase_mk (fun h6 => ⟨us, sd, nm, vs, u, rfl, rfl, rfl, fun _ => bcase_dec (fun h7 => ?_) (fun h7 => ?_)⟩) (fun h6 => ?_)) (fun h5 => ?_))))⟩)⟩
  all_goals simp only [Bool.not_eq_true', Bool.not_eq_false'] at *
  · exact fin 7 _ (by simp [mayM, h1])
  · exact fin 7 _ (by simp [mayM, h1, h2])
  · exact fin 1 _ (by simp [mayM, h1, h2, h3])
  · exact fin 1 _ (by simp [mayM, h1, h2, h3, h4])
  · exact fin 9 _ (by rw [itsD_len] at h7; simp [mayM, h1, h2, h3, h4, h5, h6]; omega)
  · exact fin 0 _ (by rw [itsD_len] at h7; simp [mayM, h1, h2, h3, h4, h5, h6]; omega)
  · exact fin 0 _ (by simp [mayM, h1, h2, h3, h4, h5, h6])
  · exact fin 0 _ (by simp [mayM, h1, h2, h3, h4, h5])
end Go.Proofs.YtldcalmoboeeiaaDoor
