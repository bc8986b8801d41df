import Derived.Test.YtfdmmgiefhhnoaaGreatDoorStaWr
set_option linter.unusedSimpArgs false
set_option linter.unusedVariables false
namespace Go.Proofs.YtfdmmgiefhhnoaaGreatDoor
open Go Go.AM Go.RowKit
attribute [local irreducible] aCode
noncomputable abbrev GWrite : List (FuncId × En) := [(13, .pure EDrawn), (11, .pure ERead), (8, .pure ESame)]
theorem rWrite (s : Sz) (q : AV → Prop) :
 (aCode KS GWrite Tryz.b5 (kRet KS Tryz.f5.results.toList q) ⟨[szV s] ++ List.replicate (Tryz.f5.ntmps - 1) .jk, []⟩) = (
 bcase (decide ((Sz.kind s) < (1 : Int))) (
 q (AV.tp [AV.ag [mkS ⟨#[]⟩, AV.d (.sl []), mkS ⟨#[]⟩, AV.d (.sl [])], mkI .i64 1])) (
 bcase (decide ((Sz.kind s) > (14 : Int))) (
 q (AV.tp [AV.ag [mkS ⟨#[]⟩, AV.d (.sl []), mkS ⟨#[]⟩, AV.d (.sl [])], mkI .i64 1])) (
 ∃ (s_1 : Sz),
 ([AV.ag [mkI .i64 (Sz.kind s), mkS (Sz.ty s), mkS (Sz.id s), mkS (Sz.from_ s), mkS (Sz.to_ s), mkS (Sz.show_ s), mkS (Sz.tok s), mkS (Sz.rea s), mkI .u32 (Sz.h s), mkI .i64 (Sz.ver s), mkB (Sz.rem s), AV.d (.sl (itsD (Sz.its s)))]] = [AV.ag [mkI .i64 (Sz.kind s_1), mkS (Sz.ty s_1), mkS (Sz.id s_1), mkS (Sz.from_ s_1), mkS (Sz.to_ s_1), mkS (Sz.show_ s_1), mkS (Sz.tok s_1), mkS (Sz.rea s_1), mkI .u32 (Sz.h s_1), mkI .i64 (Sz.ver s_1), mkB (Sz.rem s_1), AV.d (.sl (itsD (Sz.its s_1)))]]) ∧
 (FitS s_1) ∧
 (((1 : Int) ≤ (Sz.kind s_1)) ∧ ((Sz.kind s_1) ≤ (14 : Int))) ∧ (
 ∃ (n : ByteArray),
 ∃ (l : List At),
 ∃ (t : ByteArray),
 ∃ (k : List El),
 ([AV.ag [mkS (El.n (drawnM s_1)), AV.d (.sl (atsD (El.ats (drawnM s_1)))), mkS (El.t (drawnM s_1)), AV.d (.sl (ksD (El.ks (drawnM s_1))))]] = [AV.ag [mkS n, AV.d (.sl (atsD l)), mkS t, AV.d (.sl (ksD k))]]) ∧
 (FitE (El.mk n l t k)) ∧
 bcase ((Prod.snd (readM (El.mk n l t k))) != (0 : Int)) (
 q (AV.tp [AV.ag [mkS ⟨#[]⟩, AV.d (.sl []), mkS ⟨#[]⟩, AV.d (.sl [])], mkI .i64 1])) (
 ∃ (s_2 : Sz),
 ∃ (t_1 : Sz),
 ([AV.ag [mkI .i64 (Sz.kind (Prod.fst (readM (El.mk n l t k)))), mkS (Sz.ty (Prod.fst (readM (El.mk n l t k)))), mkS (Sz.id (Prod.fst (readM (El.mk n l t k)))), mkS (Sz.from_ (Prod.fst (readM (El.mk n l t k)))), mkS (Sz.to_ (Prod.fst (readM (El.mk n l t k)))), mkS (Sz.show_ (Prod.fst (readM (El.mk n l t k)))), mkS (Sz.tok (Prod.fst (readM (El.mk n l t k)))), mkS (Sz.rea (Prod.fst (readM (El.mk n l t k)))), mkI .u32 (Sz.h (Prod.fst (readM (El.mk n l t k)))), mkI .i64 (Sz.ver (Prod.fst (readM (El.mk n l t k)))), mkB (Sz.rem (Prod.fst (readM (El.mk n l t k)))), AV.d (.sl (itsD (Sz.its (Prod.fst (readM (El.mk n l t k))))))], AV.ag [mkI .i64 (Sz.kind s), mkS (Sz.ty s), mkS (Sz.id s), mkS (Sz.from_ s), mkS (Sz.to_ s), mkS (Sz.show_ s), mkS (Sz.tok s), mkS (Sz.rea s), mkI .u32 (Sz.h s), mkI .i64 (Sz.ver s), mkB (Sz.rem s), AV.d (.sl (itsD (Sz.its s)))]] = [AV.ag [mkI .i64 (Sz.kind s_2), mkS (Sz.ty s_2), mkS (Sz.id s_2), mkS (Sz.from_ s_2), mkS (Sz.to_ s_2), mkS (Sz.show_ s_2), mkS (Sz.tok s_2), mkS (Sz.rea s_2), mkI .u32 (Sz.h s_2), mkI .i64 (Sz.ver s_2), mkB (Sz.rem s_2), AV.d (.sl (itsD (Sz.its s_2)))], AV.ag [mkI .i64 (Sz.kind t_1), mkS (Sz.ty t_1), mkS (Sz.id t_1), mkS (Sz.from_ t_1), mkS (Sz.to_ t_1), mkS (Sz.show_ t_1), mkS (Sz.tok t_1), mkS (Sz.rea t_1), mkI .u32 (Sz.h t_1), mkI .i64 (Sz.ver t_1), mkB (Sz.rem t_1), AV.d (.sl (itsD (Sz.its t_1)))]]) ∧
 bcase (!(sameM s_2 t_1)) (
 q (AV.tp [AV.ag [mkS ⟨#[]⟩, AV.d (.sl []), mkS ⟨#[]⟩, AV.d (.sl [])], mkI .i64 1])) (
 q (AV.tp [AV.ag [mkS (El.n (drawnM s_1)), AV.d (.sl (atsD (El.ats (drawnM s_1)))), mkS (El.t (drawnM s_1)), AV.d (.sl (ksD (El.ks (drawnM s_1))))], mkI .i64 0]))))))) := by kernel_rfl
theorem rCounts (s : Sz) (q : AV → Prop) :
 (aCode KS [] Tryz.b10 (kRet KS Tryz.f10.results.toList q) ⟨[szV s] ++ List.replicate (Tryz.f10.ntmps - 1) .jk, []⟩) = (
 bcase (decide ((Sz.kind s) ≥ (1 : Int))) (
 q (mkB (decide ((Sz.kind s) ≤ (5 : Int))))) (
 q (mkB false))) := by kernel_rfl
theorem decS_len : ∀ (k u : Nat), u < 10 ^ (k + 1) → (Lib.decDigits u).length ≤ k + 1
  | 0, u, h => by rw [Lib.decDigits_one (by simpa using h)]; simp
  | k + 1, u, h => by
    rw [Lib.decDigits]
    split
    · simp
    · have := decS_len k (u / 10) (by rw [Nat.pow_succ] at h; omega)
      rw [List.length_append, List.length_singleton]; omega
theorem decS_size (n : Nat) (h : n ≤ 4294967295) : (decS n).size ≤ LIM := by
  have := decS_len 9 n (by omega)
  have e : (decS n).size = (Lib.decDigits n).length := by simp [decS, ByteArray.size]
  rw [e]; unfold LIM; omega
theorem withL_fit {l : List At} {n v : BA} (hl : atsFit l) (hn : n.size ≤ LIM) (hv : v.size ≤ LIM) : atsFit (withL l n v) := by
  unfold withL
  split
  · exact hl
  · intro a ha
    rcases List.mem_append.1 ha with h | h
    · exact hl a h
    · rw [List.mem_singleton] at h; subst h; exact ⟨hn, hv⟩
theorem atsFit_nil : atsFit [] := fun a h => by cases h
theorem len_lim {l : List At} (h : l.length ≤ 10) : l.length ≤ LIM := Nat.le_trans h (by unfold LIM; omega)
theorem small {s : BA} (h : s.size ≤ 100) : s.size ≤ LIM := Nat.le_trans h (by unfold LIM; omega)
theorem fitK_of {l : List El} (h : ∀ e ∈ l, e.fit) : fitK l := by
  induction l with
  | nil => trivial
  | cons x l ih => exact ⟨h x (by simp), ih fun e he => h e (by simp [he])⟩
theorem fit_item (r : Bool) (x : It) (h1 : x.n.size ≤ LIM) (h2 : x.c.size ≤ LIM) : (itemE r x).fit := by
  have hs : (subW x.s r).size ≤ LIM := by
    cases r with
    | true => exact (small (by decide) : sRemove.size ≤ LIM)
    | false =>
      unfold subW
      have h := and3 x.s
      generalize andZ .i64 x.s 3 = y at *
      have : y = 0 ∨ y = 1 ∨ y = 2 ∨ y = 3 := by omega
      rcases this with rfl | rfl | rfl | rfl <;> exact small (by decide)
  have f3 : atsFit (withL (withL (withL [] kJid x.c) kName x.n) kSub (subW x.s r)) := withL_fit (withL_fit (withL_fit atsFit_nil (small (by decide)) h2) (small (by decide)) h1) (small (by decide)) hs
  have l1 := withL_len [] kJid x.c
  have l2 := withL_len (withL [] kJid x.c) kName x.n
  have l3 := withL_len (withL (withL [] kJid x.c) kName x.n) kSub (subW x.s r)
  have l4 := withL_len (withL (withL (withL [] kJid x.c) kName x.n) kSub (subW x.s r)) kAsk sSubscribe
  have l0 : ([] : List At).length = 0 := rfl
  refine ⟨small (by decide), small (by decide), ?_, Nat.zero_le _, trivial⟩
  split
  · exact ⟨len_lim (by omega), withL_fit f3 (small (by decide)) (small (by decide))⟩
  · exact ⟨len_lim (by omega), f3⟩
theorem fit_query (s : Sz) (h : FitS s) : (El.mk sQuery (listedA s) ⟨#[]⟩ (listedK s)).fit := by
  refine ⟨small (by decide), small (by decide), ?_, by simpa [listedK] using h.its, fitK_of fun e he => ?_⟩
  · unfold listedA
    split
    · have l1 := withL_len [] kVer (decS (IntKind.wrap .u32 s.ver).toNat)
      exact ⟨len_lim (by simp at l1; omega), withL_fit atsFit_nil (small (by decide)) (decS_size _ (by rw [IntKind.wrap_u32]; omega))⟩
    · exact ⟨Nat.zero_le _, atsFit_nil⟩
  · simp only [listedK, List.mem_map] at he
    obtain ⟨x, hx, rfl⟩ := he
    exact fit_item _ _ (h.it x hx).1 (h.it x hx).2
theorem fit_leaf {n t : BA} {a : List At} (hn : n.size ≤ LIM) (ht : t.size ≤ LIM) (h1 : a.length ≤ 10) (h2 : atsFit a) : (El.mk n a t []).fit := ⟨hn, ht, ⟨len_lim h1, h2⟩, Nat.zero_le _, trivial⟩
theorem fit_one {n t : BA} {a : List At} {k : El} (hn : n.size ≤ LIM) (ht : t.size ≤ LIM) (h1 : a.length ≤ 10) (h2 : atsFit a) (hk : k.fit) : (El.mk n a t [k]).fit := ⟨hn, ht, ⟨len_lim h1, h2⟩, by simp [LIM], hk, trivial⟩
theorem fit_drawn (s : Sz) (h : FitS s) : FitE (drawnM s) := by
  have hq := fit_query s h
  have hd := decS_size s.h.toNat (by have := h.h; omega)
  have z : (⟨#[]⟩ : BA).size ≤ LIM := small (by decide)
  have a1 : ∀ n v : BA, n.size ≤ LIM → v.size ≤ LIM → (withL [] n v).length ≤ 10 ∧ atsFit (withL [] n v) := fun n v hn hv => ⟨by have := withL_len [] n v; simp at this; omega, withL_fit atsFit_nil hn hv⟩
  have a2 : ∀ n v m w : BA, n.size ≤ LIM → v.size ≤ LIM → m.size ≤ LIM → w.size ≤ LIM → (withL (withL [] n v) m w).length ≤ 10 ∧ atsFit (withL (withL [] n v) m w) := fun n v m w hn hv hm hw => ⟨by have := withL_len [] n v; have := withL_len (withL [] n v) m w; simp at *; omega, withL_fit (withL_fit atsFit_nil hn hv) hm hw⟩
  have a3 : ∀ n v m w x y : BA, n.size ≤ LIM → v.size ≤ LIM → m.size ≤ LIM → w.size ≤ LIM → x.size ≤ LIM → y.size ≤ LIM → (withL (withL (withL [] n v) m w) x y).length ≤ 10 ∧ atsFit (withL (withL (withL [] n v) m w) x y) := fun n v m w x y hn hv hm hw hx hy => ⟨by have := withL_len [] n v; have := withL_len (withL [] n v) m w; have := withL_len (withL (withL [] n v) m w) x y; simp at *; omega, withL_fit (withL_fit (withL_fit atsFit_nil hn hv) hm hw) hx hy⟩
  refine ⟨?_⟩
  unfold drawnM
  split
  · have a := a3 kType s.ty kFrom s.from_ kTo s.to_ (small (by decide)) h.ty (small (by decide)) h.from_ (small (by decide)) h.to_
    unfold kidsP
    split
    · exact fit_leaf (small (by decide)) z a.1 a.2
    · exact fit_one (small (by decide)) z a.1 a.2 (fit_leaf (small (by decide)) h.show_ (Nat.zero_le _) atsFit_nil)
  · have a := a2 kType sGet kId s.id (small (by decide)) (small (by decide)) (small (by decide)) h.id
    exact fit_one (small (by decide)) z a.1 a.2 hq
  · have a := a2 kType sSet kId s.id (small (by decide)) (small (by decide)) (small (by decide)) h.id
    exact fit_one (small (by decide)) z a.1 a.2 hq
  · have a := a2 kType sResult kId s.id (small (by decide)) (small (by decide)) (small (by decide)) h.id
    split
    · exact fit_one (small (by decide)) z a.1 a.2 hq
    · exact fit_leaf (small (by decide)) z a.1 a.2
  · have a := a2 kType sError kId s.id (small (by decide)) (small (by decide)) (small (by decide)) h.id
    exact fit_one (small (by decide)) z a.1 a.2 (fit_leaf (small (by decide)) h.rea (Nat.zero_le _) atsFit_nil)
  · exact fit_leaf (small (by decide)) z (Nat.zero_le _) atsFit_nil
  · have a := a1 kId s.tok (small (by decide)) h.tok
    exact fit_leaf (small (by decide)) z a.1 a.2
  · exact fit_leaf (small (by decide)) z (Nat.zero_le _) atsFit_nil
  · have a := a1 kH (decS s.h.toNat) (small (by decide)) hd
    exact fit_leaf (small (by decide)) z a.1 a.2
  · have a := a2 kH (decS s.h.toNat) kPrev s.tok (small (by decide)) hd (small (by decide)) h.tok
    exact fit_leaf (small (by decide)) z a.1 a.2
  · have a := a2 kH (decS s.h.toNat) kPrev s.tok (small (by decide)) hd (small (by decide)) h.tok
    exact fit_leaf (small (by decide)) z a.1 a.2
  · exact fit_leaf (small (by decide)) z (Nat.zero_le _) atsFit_nil
  · exact fit_leaf (small (by decide)) z (Nat.zero_le _) atsFit_nil
  · exact fit_leaf (small (by decide)) z (Nat.zero_le _) atsFit_nil
  · exact fit_leaf (small (by decide)) z (Nat.zero_le _) atsFit_nil
def zE : El := .mk ⟨#[]⟩ [] ⟨#[]⟩ []
def writeM (s : Sz) : El × Int := if 1 ≤ s.kind ∧ s.kind ≤ 14 ∧ (readM (drawnM s)).2 = 0 ∧ (readM (drawnM s)).1 = s then (drawnM s, 0) else (zE, 1)
def EWrite : List AV → (AV → Prop) → Prop := fun al q => ∃ s, al = [szV s] ∧ FitS s ∧ q (.tp [elV (writeM s).1, mkI .i64 (writeM s).2])
theorem cWrite : PSound Tryz.prog 5 EWrite := by
  refine pure_fn (c := Tryz.b5) mixed KS_ok (gsound_pure (cDrawn cListed) (gsound_pure cStRead (gsound_pure cSame gsound_nil))) Tryz.func5 rfl rfl Tryz.call5 fun al q ⟨s, h1, hf, hq⟩ => ?_
  subst h1
  have no : ¬ (1 ≤ s.kind ∧ s.kind ≤ 14 ∧ (readM (drawnM s)).2 = 0 ∧ (readM (drawnM s)).1 = s) → q (.tp [elV zE, mkI .i64 1]) := fun h => by
    have e : writeM s = (zE, 1) := if_neg h
    rw [e] at hq; exact hq
  have hfd := fit_drawn s hf
  refine cast (rWrite s q).symm (bcase_dec (fun h => no fun g => by omega) (fun h => bcase_dec (fun h2 => no fun g => by omega) (fun h2 => ⟨s, rfl, hf, ⟨by omega, by omega⟩, (drawnM s).n, (drawnM s).ats, (drawnM s).t, (drawnM s).ks, rfl, ?_, ?_⟩)))
  · have : El.mk (drawnM s).n (drawnM s).ats (drawnM s).t (drawnM s).ks = drawnM s := by cases drawnM s; rfl
    rw [this]; exact hfd
  · have e : El.mk (drawnM s).n (drawnM s).ats (drawnM s).t (drawnM s).ks = drawnM s := by cases drawnM s; rfl
    rw [e]
    refine bcase_mk (fun g => no fun g2 => ?_) (fun g => ⟨(readM (drawnM s)).1, s, rfl, bcase_mk (fun g3 => no fun g2 => ?_) (fun g3 => ?_)⟩)
    · have := g2.2.2.1
      rw [this] at g; simp at g
    · rw [g2.2.2.2] at g3; simp [sameM] at g3
    · have c1 : (readM (drawnM s)).2 = 0 := by simpa using g
      have c2 : (readM (drawnM s)).1 = s := by simpa [sameM] using g3
      have e : writeM s = (drawnM s, 0) := if_pos ⟨by omega, by omega, c1, c2⟩
      rw [e] at hq; exact hq
def countsM (s : Sz) : Bool := decide (1 ≤ s.kind) && decide (s.kind ≤ 5)
def ECounts : List AV → (AV → Prop) → Prop := fun al q => ∃ s, al = [szV s] ∧ q (mkB (countsM s))
theorem cCounts : PSound Tryz.prog 10 ECounts := by
  refine pure_fn (c := Tryz.b10) mixed KS_ok gsound_nil Tryz.func10 rfl rfl Tryz.call10 fun al q ⟨s, h1, hq⟩ => ?_
  subst h1
  refine cast (rCounts s q).symm (bcase_dec (fun h => ?_) (fun h => ?_))
  · have e : countsM s = decide (s.kind ≤ 5) := by unfold countsM; rw [decide_eq_true (show 1 ≤ s.kind from h)]; rfl
    rw [e] at hq; exact hq
  · have e : countsM s = false := by unfold countsM; rw [decide_eq_false (show ¬ 1 ≤ s.kind from h)]; rfl
    rw [e] at hq; exact hq
noncomputable abbrev GLive : List (FuncId × En) := [(11, .pure ERead), (5, .pure EWrite), (12, .det (strF userB)), (10, .pure ECounts)]
theorem rLive (q : AV → Prop) :
 (aCode KS GLive Tryz.b4 (kRet KS Tryz.f4.results.toList q) ⟨List.replicate (Tryz.f4.ntmps) .jk, []⟩) = (
 ∃ (n : ByteArray),
 ∃ (l : List At),
 ∃ (t : ByteArray),
 ∃ (k : List El),
 ([AV.ag [mkS ⟨#[97]⟩, AV.d (.sl [[D.v (.string ⟨#[104]⟩), D.v (.string ⟨#[53]⟩)]]), mkS ⟨#[]⟩, AV.d (.sl [])]] = [AV.ag [mkS n, AV.d (.sl (atsD l)), mkS t, AV.d (.sl (ksD k))]]) ∧
 (FitE (El.mk n l t k)) ∧ (
 ∃ (s : Sz),
 ([AV.ag [mkI .i64 1, mkS ⟨#[]⟩, mkS ⟨#[]⟩, mkS ⟨#[]⟩, mkS ⟨#[]⟩, mkS ⟨#[97, 119, 97, 121]⟩, mkS ⟨#[]⟩, mkS ⟨#[]⟩, mkI .u32 0, mkI .i64 0, mkB false, AV.d (.sl [])]] = [AV.ag [mkI .i64 (Sz.kind s), mkS (Sz.ty s), mkS (Sz.id s), mkS (Sz.from_ s), mkS (Sz.to_ s), mkS (Sz.show_ s), mkS (Sz.tok s), mkS (Sz.rea s), mkI .u32 (Sz.h s), mkI .i64 (Sz.ver s), mkB (Sz.rem s), AV.d (.sl (itsD (Sz.its s)))]]) ∧
 (FitS s) ∧
 bcase ((Prod.snd (readM (El.mk n l t k))) == (0 : Int)) (
 bcase ((Sz.kind (Prod.fst (readM (El.mk n l t k)))) == (9 : Int)) (
 bcase ((Sz.h (Prod.fst (readM (El.mk n l t k)))) == (5 : Int)) (
 bcase ((Prod.snd (writeM s)) == (0 : Int)) (
 bcase (decide ((El.n (Prod.fst (writeM s))) = ⟨#[112, 114, 101, 115, 101, 110, 99, 101]⟩)) (
 ((List.length (ksD (El.ks (Prod.fst (writeM s))))) ≤ LIM) →
 bcase (((List.length (ksD (El.ks (Prod.fst (writeM s))))) : Int) == (1 : Int)) (
 ((ByteArray.size (⟨#[97, 110, 110]⟩ : ByteArray)) ≤ LIM) ∧ (
 ∃ (s_1 : Sz),
 ([AV.ag [mkI .i64 2, mkS ⟨#[]⟩, mkS ⟨#[]⟩, mkS ⟨#[]⟩, mkS ⟨#[]⟩, mkS ⟨#[]⟩, mkS ⟨#[]⟩, mkS ⟨#[]⟩, mkI .u32 0, mkI .i64 0, mkB false, AV.d (.sl [])]] = [AV.ag [mkI .i64 (Sz.kind s_1), mkS (Sz.ty s_1), mkS (Sz.id s_1), mkS (Sz.from_ s_1), mkS (Sz.to_ s_1), mkS (Sz.show_ s_1), mkS (Sz.tok s_1), mkS (Sz.rea s_1), mkI .u32 (Sz.h s_1), mkI .i64 (Sz.ver s_1), mkB (Sz.rem s_1), AV.d (.sl (itsD (Sz.its s_1)))]]) ∧
 q (mkB (countsM s_1)))) (
 q (mkB false))) (
 q (mkB false))) (
 q (mkB false))) (
 q (mkB false))) (
 q (mkB false))) (
 q (mkB false)))) := by kernel_rfl
def sFive : BA := ⟨#[53]⟩
theorem dec5 : decS 5 = sFive := by unfold decS; rw [Lib.decDigits_one (by omega)]; rfl
theorem num5 : readN sFive = some 5 := by
  have h : readGo sFive.data.toList 0 = some 5 := by decide
  unfold readN
  rw [h]
  show (if decS 5 = sFive then some 5 else none) = some 5
  rw [dec5]; rfl
def eA : El := .mk sA [(kH, sFive)] ⟨#[]⟩ []
theorem read_eA : readM eA = ({ kind := 9, h := 5 }, 0) := by
  have c : cntB sFive = true := by unfold cntB; rw [num5]; rfl
  have n5 : numOf sFive = 5 := by unfold numOf; rw [num5]; rfl
  have f : fitsM shH [] [(kH, sFive)] = true := by
    have : atOk shH [] (kH, sFive) = true := by
      show cntB sFive = true
      exact c
    unfold fitsM
    rw [List.all_cons, this]; rfl
  have v : valueM [(kH, sFive)] kH = sFive := rfl
  have v2 : valueM [(kH, sFive)] kPrev = ⟨#[]⟩ := by decide
  have h0 : readM eA = simpleM 9 shH eA := rfl
  rw [h0]
  unfold simpleM eA
  simp only [El.ats_mk, El.t_mk, El.ks_mk, f, v, v2, n5]
  rfl
theorem fit_eA : FitE eA := ⟨fit_leaf (small (by decide)) (small (by decide)) (by simp) fun a h => by rw [List.mem_singleton] at h; subst h; exact ⟨small (by decide), small (by decide)⟩⟩
def sP : Sz := { kind := 1, show_ := sAway }
theorem draw_sP : drawnM sP = .mk sPresence [] ⟨#[]⟩ [.mk sShow [] sAway []] := by
  unfold drawnM sP
  simp only [withL, if_pos, kidsP]
  rw [if_neg (by decide)]
theorem write_sP : writeM sP = (.mk sPresence [] ⟨#[]⟩ [.mk sShow [] sAway []], 0) := by
  have h : readM (drawnM sP) = (sP, 0) := by rw [draw_sP]; decide
  unfold writeM
  rw [h, if_pos ⟨by decide, by decide, rfl, rfl⟩, draw_sP]
theorem fit_plain (k : Int) (sh : BA) (h : sh.size ≤ LIM) : FitS { kind := k, show_ := sh } :=
  have z : (⟨#[]⟩ : BA).size ≤ LIM := small (by decide)
  ⟨Nat.zero_le _, fun x hx => (List.not_mem_nil hx).elim, z, z, z, z, h, z, z, ⟨Int.le_refl 0, by show (0 : Int) ≤ 4294967295; omega⟩⟩
def ELive : List AV → (AV → Prop) → Prop := fun al q => al = [] ∧ q (mkB true)
theorem cLive : PSound Tryz.prog 4 ELive := by
  refine pure_fn (c := Tryz.b4) mixed KS_ok (gsound_pure cStRead (gsound_pure cWrite (gsound_det cUserS (gsound_pure cCounts gsound_nil)))) Tryz.func4 rfl rfl Tryz.call4 fun al q ⟨h1, hq⟩ => ?_
  subst h1
  refine cast (rLive q).symm ⟨sA, [(kH, sFive)], ⟨#[]⟩, [], rfl, fit_eA, sP, rfl, fit_plain 1 sAway (small (by decide)), ?_⟩
  rw [show El.mk sA [(kH, sFive)] ⟨#[]⟩ [] = eA from rfl, read_eA, write_sP]
  exact fun _ => ⟨small (by decide), { kind := 2 }, rfl, hq⟩
end Go.Proofs.YtfdmmgiefhhnoaaGreatDoor
