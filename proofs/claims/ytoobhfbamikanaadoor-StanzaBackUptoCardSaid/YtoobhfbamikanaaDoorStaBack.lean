import Derived.Test.YtoobhfbamikanaaDoorStaRgtM
import Derived.Test.YtoobhfbamikanaaDoorStaOrd
set_option linter.unusedSimpArgs false
set_option linter.unusedVariables false
namespace Go.Proofs.YtoobhfbamikanaaDoor
open Go Go.AM Go.RowKit
attribute [local irreducible] aCode aUnr aUnS aOut
def EReadA : List AV → (AV → Prop) → Prop := fun al q => ∃ n l t k, al = [.ag [mkS n, .d (.sl (atsD l)), mkS t, .d (.sl (ksD k))]] ∧ FitE (.mk n l t k) ∧ ∀ r c, readM (.mk n l t k) = (r, c) → q (.tp [szV r, mkI .i64 c])
theorem cReadA : PSound Tryd.prog 8 EReadA := cStRead.mono fun al q ⟨n, l, t, k, h1, h2, h3⟩ => ⟨n, l, t, k, h1, h2, h3 _ _ rfl⟩
def EWriteA : List AV → (AV → Prop) → Prop := fun al q => ∃ s, al = [szV s] ∧ FitS s ∧ ∀ n l t k c, writeM s = (.mk n l t k, c) → q (.tp [.ag [mkS n, .d (.sl (atsD l)), mkS t, .d (.sl (ksD k))], mkI .i64 c])
theorem cWriteA : PSound Tryd.prog 7 EWriteA := cWrite.mono fun al q ⟨s, h1, h2, h3⟩ => ⟨s, h1, h2, by
  have := h3 (writeM s).1.n (writeM s).1.ats (writeM s).1.t (writeM s).1.ks (writeM s).2 (by cases writeM s with | mk e c => cases e; rfl)
  exact this⟩
noncomputable abbrev GBack : List (FuncId × En) := [(6, .pure ELive), (7, .pure EWriteA), (8, .pure EReadA), (9, .pure ESame), (10, .pure ERgt), (11, .pure ECutA)]
theorem rBack (s : Sz) (n : BA) (l : List At) (t : BA) (k : List El) (q : AV → Prop) :
  (aCode KS GBack Tryd.b3 (kRet KS Tryd.f3.results.toList q) ⟨[szV s, .ag [mkS n, .d (.sl (atsD l)), mkS t, .d (.sl (ksD k))]] ++ List.replicate (Tryd.f3.ntmps - 2) .jk, []⟩) = (
  (([] : List AV) = []) ∧ (
   ((List.length (itsD (Sz.its s))) ≤ LIM) →
   (IntKind.i64 = IntKind.i64) ∧
   (((0 : Int) ≤ (if (20 : Int) < ((List.length (itsD (Sz.its s))) : Int) then (20 : Int) else ((List.length (itsD (Sz.its s))) : Int))) ∧ ((if (20 : Int) < ((List.length (itsD (Sz.its s))) : Int) then (20 : Int) else ((List.length (itsD (Sz.its s))) : Int)) ≤ ((List.length (itsD (Sz.its s))) : Int))) ∧ (
    ∃ (s_1 : Sz),
    ([AV.ag [mkI .i64 (Sz.kind s), mkS (Sz.ty s), mkS (Sz.id s), mkS (Sz.from_ s), mkS (Sz.to_ s), mkS (Sz.show_ s), mkS (Sz.tok s), mkS (Sz.rea s), mkI .u32 (Sz.h s), mkI .i64 (Sz.ver s), mkB (Sz.rem s), AV.d (D.sl (List.take (Int.toNat (if (20 : Int) < ((List.length (itsD (Sz.its s))) : Int) then (20 : Int) else ((List.length (itsD (Sz.its s))) : Int))) (itsD (Sz.its s))))]] = [AV.ag [mkI .i64 (Sz.kind s_1), mkS (Sz.ty s_1), mkS (Sz.id s_1), mkS (Sz.from_ s_1), mkS (Sz.to_ s_1), mkS (Sz.show_ s_1), mkS (Sz.tok s_1), mkS (Sz.rea s_1), mkI .u32 (Sz.h s_1), mkI .i64 (Sz.ver s_1), mkB (Sz.rem s_1), AV.d (D.sl (itsD (Sz.its s_1)))]]) ∧
    (FitS s_1) ∧ (
     ∀ (n_1 : BA),
     ∀ (l_1 : List At),
     ∀ (t_1 : BA),
     ∀ (k_1 : List El),
     ∀ (c : Int),
     ((writeM s_1) = (El.mk n_1 l_1 t_1 k_1, c)) →
     bcase (c == (0 : Int)) (
      ∃ (n_2 : ByteArray),
      ∃ (l_2 : List At),
      ∃ (t_2 : ByteArray),
      ∃ (k_2 : List El),
      ([AV.ag [mkS n_1, AV.d (D.sl (atsD l_1)), mkS t_1, AV.d (D.sl (ksD k_1))]] = [AV.ag [mkS n_2, AV.d (D.sl (atsD l_2)), mkS t_2, AV.d (D.sl (ksD k_2))]]) ∧
      (FitE (El.mk n_2 l_2 t_2 k_2)) ∧ (
       ∀ (r : Sz),
       ∀ (c_1 : Int),
       ((readM (El.mk n_2 l_2 t_2 k_2)) = (r, c_1)) →
       bcase (c_1 != (0 : Int)) (
        q (mkB false)) (
        ∃ (s_2 : Sz),
        ∃ (t_3 : Sz),
        ([AV.ag [mkI .i64 (Sz.kind r), mkS (Sz.ty r), mkS (Sz.id r), mkS (Sz.from_ r), mkS (Sz.to_ r), mkS (Sz.show_ r), mkS (Sz.tok r), mkS (Sz.rea r), mkI .u32 (Sz.h r), mkI .i64 (Sz.ver r), mkB (Sz.rem r), AV.d (D.sl (itsD (Sz.its r)))], AV.ag [mkI .i64 (Sz.kind s), mkS (Sz.ty s), mkS (Sz.id s), mkS (Sz.from_ s), mkS (Sz.to_ s), mkS (Sz.show_ s), mkS (Sz.tok s), mkS (Sz.rea s), mkI .u32 (Sz.h s), mkI .i64 (Sz.ver s), mkB (Sz.rem s), AV.d (D.sl (List.take (Int.toNat (if (20 : Int) < ((List.length (itsD (Sz.its s))) : Int) then (20 : Int) else ((List.length (itsD (Sz.its s))) : Int))) (itsD (Sz.its s))))]] = [AV.ag [mkI .i64 (Sz.kind s_2), mkS (Sz.ty s_2), mkS (Sz.id s_2), mkS (Sz.from_ s_2), mkS (Sz.to_ s_2), mkS (Sz.show_ s_2), mkS (Sz.tok s_2), mkS (Sz.rea s_2), mkI .u32 (Sz.h s_2), mkI .i64 (Sz.ver s_2), mkB (Sz.rem s_2), AV.d (D.sl (itsD (Sz.its s_2)))], AV.ag [mkI .i64 (Sz.kind t_3), mkS (Sz.ty t_3), mkS (Sz.id t_3), mkS (Sz.from_ t_3), mkS (Sz.to_ t_3), mkS (Sz.show_ t_3), mkS (Sz.tok t_3), mkS (Sz.rea t_3), mkI .u32 (Sz.h t_3), mkI .i64 (Sz.ver t_3), mkB (Sz.rem t_3), AV.d (D.sl (itsD (Sz.its t_3)))]]) ∧
        bcase (!(sameM s_2 t_3)) (
         q (mkB false)) (
         ∃ (n_3 : ByteArray),
         ∃ (l_3 : List At),
         ∃ (t_4 : ByteArray),
         ∃ (k_3 : List El),
         ([AV.ag [mkS n_1, AV.d (D.sl (atsD l_1)), mkS t_1, AV.d (D.sl (ksD k_1))]] = [AV.ag [mkS n_3, AV.d (D.sl (atsD l_3)), mkS t_4, AV.d (D.sl (ksD k_3))]]) ∧
         (OkE (4 : Nat) (El.mk n_3 l_3 t_4 k_3)) ∧ (
          ∃ (n_4 : ByteArray),
          ∃ (l_4 : List At),
          ∃ (t_5 : ByteArray),
          ∃ (k_4 : List El),
          ([AV.ag [mkS n, AV.d (D.sl (atsD l)), mkS t, AV.d (D.sl (ksD k))], mkI .i64 1] = [AV.ag [mkS n_4, AV.d (D.sl (atsD l_4)), mkS t_5, AV.d (D.sl (ksD k_4))], mkI .i64 1]) ∧
          (FitE (El.mk n_4 l_4 t_5 k_4)) ∧ (
           ∀ (n' : BA),
           ∀ (l' : List At),
           ∀ (t' : BA),
           ∀ (k' : List El),
           ((cutM (4 : Nat) (El.mk n_4 l_4 t_5 k_4)) = (El.mk n' l' t' k')) →
           ∃ (n_5 : ByteArray),
           ∃ (l_5 : List At),
           ∃ (t_6 : ByteArray),
           ∃ (k_5 : List El),
           ([AV.ag [mkS n', AV.d (D.sl (atsD l')), mkS t', AV.d (D.sl (ksD k'))]] = [AV.ag [mkS n_5, AV.d (D.sl (atsD l_5)), mkS t_6, AV.d (D.sl (ksD k_5))]]) ∧
           (FitE (El.mk n_5 l_5 t_6 k_5)) ∧ (
            ∀ (r_1 : Sz),
            ∀ (c_2 : Int),
            ((readM (El.mk n_5 l_5 t_6 k_5)) = (r_1, c_2)) →
            bcase (c_2 != (0 : Int)) (
             q (mkB ((Sz.kind r_1) == (0 : Int)))) (
             ∃ (s_3 : Sz),
             ([AV.ag [mkI .i64 (Sz.kind r_1), mkS (Sz.ty r_1), mkS (Sz.id r_1), mkS (Sz.from_ r_1), mkS (Sz.to_ r_1), mkS (Sz.show_ r_1), mkS (Sz.tok r_1), mkS (Sz.rea r_1), mkI .u32 (Sz.h r_1), mkI .i64 (Sz.ver r_1), mkB (Sz.rem r_1), AV.d (D.sl (itsD (Sz.its r_1)))]] = [AV.ag [mkI .i64 (Sz.kind s_3), mkS (Sz.ty s_3), mkS (Sz.id s_3), mkS (Sz.from_ s_3), mkS (Sz.to_ s_3), mkS (Sz.show_ s_3), mkS (Sz.tok s_3), mkS (Sz.rea s_3), mkI .u32 (Sz.h s_3), mkI .i64 (Sz.ver s_3), mkB (Sz.rem s_3), AV.d (D.sl (itsD (Sz.its s_3)))]]) ∧
             (FitS s_3) ∧ (
              ∀ (n_6 : BA),
              ∀ (l_6 : List At),
              ∀ (t_7 : BA),
              ∀ (k_6 : List El),
              ∀ (c_3 : Int),
              ((writeM s_3) = (El.mk n_6 l_6 t_7 k_6, c_3)) →
              ∃ (n_7 : ByteArray),
              ∃ (l_7 : List At),
              ∃ (t_8 : ByteArray),
              ∃ (k_7 : List El),
              ([AV.ag [mkS n_6, AV.d (D.sl (atsD l_6)), mkS t_7, AV.d (D.sl (ksD k_6))]] = [AV.ag [mkS n_7, AV.d (D.sl (atsD l_7)), mkS t_8, AV.d (D.sl (ksD k_7))]]) ∧
              (FitE (El.mk n_7 l_7 t_8 k_7)) ∧ (
               ∀ (r_2 : Sz),
               ∀ (c_4 : Int),
               ((readM (El.mk n_7 l_7 t_8 k_7)) = (r_2, c_4)) →
               bcase (c_3 == (0 : Int)) (
                bcase (c_4 == (0 : Int)) (
                 ∃ (s_4 : Sz),
                 ∃ (t_9 : Sz),
                 ([AV.ag [mkI .i64 (Sz.kind r_1), mkS (Sz.ty r_1), mkS (Sz.id r_1), mkS (Sz.from_ r_1), mkS (Sz.to_ r_1), mkS (Sz.show_ r_1), mkS (Sz.tok r_1), mkS (Sz.rea r_1), mkI .u32 (Sz.h r_1), mkI .i64 (Sz.ver r_1), mkB (Sz.rem r_1), AV.d (D.sl (itsD (Sz.its r_1)))], AV.ag [mkI .i64 (Sz.kind r_2), mkS (Sz.ty r_2), mkS (Sz.id r_2), mkS (Sz.from_ r_2), mkS (Sz.to_ r_2), mkS (Sz.show_ r_2), mkS (Sz.tok r_2), mkS (Sz.rea r_2), mkI .u32 (Sz.h r_2), mkI .i64 (Sz.ver r_2), mkB (Sz.rem r_2), AV.d (D.sl (itsD (Sz.its r_2)))]] = [AV.ag [mkI .i64 (Sz.kind s_4), mkS (Sz.ty s_4), mkS (Sz.id s_4), mkS (Sz.from_ s_4), mkS (Sz.to_ s_4), mkS (Sz.show_ s_4), mkS (Sz.tok s_4), mkS (Sz.rea s_4), mkI .u32 (Sz.h s_4), mkI .i64 (Sz.ver s_4), mkB (Sz.rem s_4), AV.d (D.sl (itsD (Sz.its s_4)))], AV.ag [mkI .i64 (Sz.kind t_9), mkS (Sz.ty t_9), mkS (Sz.id t_9), mkS (Sz.from_ t_9), mkS (Sz.to_ t_9), mkS (Sz.show_ t_9), mkS (Sz.tok t_9), mkS (Sz.rea t_9), mkI .u32 (Sz.h t_9), mkI .i64 (Sz.ver t_9), mkB (Sz.rem t_9), AV.d (D.sl (itsD (Sz.its t_9)))]]) ∧
                 q (mkB (sameM s_4 t_9))) (
                 q (mkB false))) (
                q (mkB false)))))))))))) (
      ∃ (n_2 : ByteArray),
      ∃ (l_2 : List At),
      ∃ (t_2 : ByteArray),
      ∃ (k_2 : List El),
      ([AV.ag [mkS n, AV.d (D.sl (atsD l)), mkS t, AV.d (D.sl (ksD k))], mkI .i64 1] = [AV.ag [mkS n_2, AV.d (D.sl (atsD l_2)), mkS t_2, AV.d (D.sl (ksD k_2))], mkI .i64 1]) ∧
      (FitE (El.mk n_2 l_2 t_2 k_2)) ∧ (
       ∀ (n' : BA),
       ∀ (l' : List At),
       ∀ (t' : BA),
       ∀ (k' : List El),
       ((cutM (4 : Nat) (El.mk n_2 l_2 t_2 k_2)) = (El.mk n' l' t' k')) →
       ∃ (n_3 : ByteArray),
       ∃ (l_3 : List At),
       ∃ (t_3 : ByteArray),
       ∃ (k_3 : List El),
       ([AV.ag [mkS n', AV.d (D.sl (atsD l')), mkS t', AV.d (D.sl (ksD k'))]] = [AV.ag [mkS n_3, AV.d (D.sl (atsD l_3)), mkS t_3, AV.d (D.sl (ksD k_3))]]) ∧
       (FitE (El.mk n_3 l_3 t_3 k_3)) ∧ (
        ∀ (r : Sz),
        ∀ (c_1 : Int),
        ((readM (El.mk n_3 l_3 t_3 k_3)) = (r, c_1)) →
        bcase (c_1 != (0 : Int)) (
         q (mkB ((Sz.kind r) == (0 : Int)))) (
         ∃ (s_2 : Sz),
         ([AV.ag [mkI .i64 (Sz.kind r), mkS (Sz.ty r), mkS (Sz.id r), mkS (Sz.from_ r), mkS (Sz.to_ r), mkS (Sz.show_ r), mkS (Sz.tok r), mkS (Sz.rea r), mkI .u32 (Sz.h r), mkI .i64 (Sz.ver r), mkB (Sz.rem r), AV.d (D.sl (itsD (Sz.its r)))]] = [AV.ag [mkI .i64 (Sz.kind s_2), mkS (Sz.ty s_2), mkS (Sz.id s_2), mkS (Sz.from_ s_2), mkS (Sz.to_ s_2), mkS (Sz.show_ s_2), mkS (Sz.tok s_2), mkS (Sz.rea s_2), mkI .u32 (Sz.h s_2), mkI .i64 (Sz.ver s_2), mkB (Sz.rem s_2), AV.d (D.sl (itsD (Sz.its s_2)))]]) ∧
         (FitS s_2) ∧ (
          ∀ (n_4 : BA),
          ∀ (l_4 : List At),
          ∀ (t_4 : BA),
          ∀ (k_4 : List El),
          ∀ (c_2 : Int),
          ((writeM s_2) = (El.mk n_4 l_4 t_4 k_4, c_2)) →
          ∃ (n_5 : ByteArray),
          ∃ (l_5 : List At),
          ∃ (t_5 : ByteArray),
          ∃ (k_5 : List El),
          ([AV.ag [mkS n_4, AV.d (D.sl (atsD l_4)), mkS t_4, AV.d (D.sl (ksD k_4))]] = [AV.ag [mkS n_5, AV.d (D.sl (atsD l_5)), mkS t_5, AV.d (D.sl (ksD k_5))]]) ∧
          (FitE (El.mk n_5 l_5 t_5 k_5)) ∧ (
           ∀ (r_1 : Sz),
           ∀ (c_3 : Int),
           ((readM (El.mk n_5 l_5 t_5 k_5)) = (r_1, c_3)) →
           bcase (c_2 == (0 : Int)) (
            bcase (c_3 == (0 : Int)) (
             ∃ (s_3 : Sz),
             ∃ (t_6 : Sz),
             ([AV.ag [mkI .i64 (Sz.kind r), mkS (Sz.ty r), mkS (Sz.id r), mkS (Sz.from_ r), mkS (Sz.to_ r), mkS (Sz.show_ r), mkS (Sz.tok r), mkS (Sz.rea r), mkI .u32 (Sz.h r), mkI .i64 (Sz.ver r), mkB (Sz.rem r), AV.d (D.sl (itsD (Sz.its r)))], AV.ag [mkI .i64 (Sz.kind r_1), mkS (Sz.ty r_1), mkS (Sz.id r_1), mkS (Sz.from_ r_1), mkS (Sz.to_ r_1), mkS (Sz.show_ r_1), mkS (Sz.tok r_1), mkS (Sz.rea r_1), mkI .u32 (Sz.h r_1), mkI .i64 (Sz.ver r_1), mkB (Sz.rem r_1), AV.d (D.sl (itsD (Sz.its r_1)))]] = [AV.ag [mkI .i64 (Sz.kind s_3), mkS (Sz.ty s_3), mkS (Sz.id s_3), mkS (Sz.from_ s_3), mkS (Sz.to_ s_3), mkS (Sz.show_ s_3), mkS (Sz.tok s_3), mkS (Sz.rea s_3), mkI .u32 (Sz.h s_3), mkI .i64 (Sz.ver s_3), mkB (Sz.rem s_3), AV.d (D.sl (itsD (Sz.its s_3)))], AV.ag [mkI .i64 (Sz.kind t_6), mkS (Sz.ty t_6), mkS (Sz.id t_6), mkS (Sz.from_ t_6), mkS (Sz.to_ t_6), mkS (Sz.show_ t_6), mkS (Sz.tok t_6), mkS (Sz.rea t_6), mkI .u32 (Sz.h t_6), mkI .i64 (Sz.ver t_6), mkB (Sz.rem t_6), AV.d (D.sl (itsD (Sz.its t_6)))]]) ∧
             q (mkB (sameM s_3 t_6))) (
             q (mkB false))) (
            q (mkB false)))))))))))) := by kernel_rfl
theorem value_le {l : List At} (h : atsFit l) (k : BA) : (valueM l k).size ≤ LIM := by
  by_cases hv : valueM l k = ⟨#[]⟩
  · rw [hv]; exact small (by decide)
  · exact (h _ (value_mem hv)).2
theorem item_le {b : Bool} {e : El} {x : It} {r : Bool} (hf : e.fit) (h : itemM b e = some (x, r)) : x.n.size ≤ LIM ∧ x.c.size ≤ LIM := by
  obtain ⟨n, l, t, k⟩ := e
  have hl := (El.fit_ats hf).2
  rw [itemM_eq] at h
  split at h
  · cases h; exact ⟨value_le hl _, value_le hl _⟩
  · cases h
theorem items_le {b : Bool} : ∀ {ks : List El} {xs : List It} {r : Bool}, (∀ e ∈ ks, e.fit) → itemsGo b ks = some (xs, r) → ∀ x ∈ xs, x.n.size ≤ LIM ∧ x.c.size ≤ LIM
  | [], xs, r, _, h, x, hx => by cases h; cases hx
  | k :: l, xs, r, hf, h, x, hx => by
    simp only [itemsGo] at h
    split at h
    · rename_i y r1 h1
      split at h
      · rename_i ys r2 h2
        cases h
        rcases List.mem_cons.1 hx with rfl | hx
        · exact item_le (hf k (by simp)) h1
        · exact items_le (fun e he => hf e (by simp [he])) h2 x hx
      · cases h
    · cases h
theorem z_le : (⟨#[]⟩ : BA).size ≤ LIM := small (by decide)
theorem num_le (s : BA) : 0 ≤ numOf s ∧ numOf s ≤ 4294967295 := num_in s
theorem asked_le {kd : Int} {id : BA} {q : El} {s : Sz} (hf : q.fit) (hid : id.size ≤ LIM) (h : askedM kd id q = some s) : FitS s := by
  obtain ⟨n, l, t, k⟩ := q
  rw [askedM_eq] at h
  split at h
  · rename_i hc
    simp only [Bool.and_eq_true] at hc
    have h3 : k.length ≤ 16 := of_decide_eq_true hc.2
    split at h
    · rename_i xs r hI
      by_cases hcond : (if kd = 2 then xs.length == 0 else if kd = 3 then xs.length == 1 else decide (0 < numOf (valueM l kVer))) = true
      · rw [if_pos hcond] at h
        cases h
        have hlen := items_len hI
        have hL := LIM_ge
        exact ⟨by show xs.length ≤ LIM; omega, items_le (fun e he => fitK_mem (El.fit_ks hf) e he) hI, z_le, hid, z_le, z_le, z_le, z_le, z_le, ⟨Int.le_refl 0, by show (0 : Int) ≤ 4294967295; omega⟩⟩
      · rw [if_neg hcond] at h
        cases h
    · cases h
  · cases h
theorem fit_read {e : El} {s : Sz} (hf : FitE e) (h : readM e = (s, 0)) : FitS s := by
  obtain ⟨n, l, t, k⟩ := e
  have hl := (El.fit_ats hf.ok).2
  have hk := fun e he => fitK_mem (El.fit_ks hf.ok) e he
  have v := value_le hl
  have nil : ∀ x ∈ ([] : List It), x.n.size ≤ LIM ∧ x.c.size ≤ LIM := fun x hx => (List.not_mem_nil hx).elim
  have zz : (0 : Int) ≤ 0 ∧ (0 : Int) ≤ 4294967295 := by omega
  unfold readM at h
  rw [El.n_mk] at h
  by_cases hn : n = sPresence
  · rw [if_pos hn] at h
    unfold presM at h
    split at h
    · simp only [El.ats_mk, El.t_mk, El.ks_mk, Bool.and_eq_true] at h hk
      split at h
      · cases h
        exact ⟨Nat.zero_le _, nil, v _, z_le, v _, v _, z_le, z_le, z_le, zz⟩
      · rename_i e
        split at h
        · cases h
          exact ⟨Nat.zero_le _, nil, v _, z_le, v _, v _, El.fit_t (hk _ (by simp)), z_le, z_le, zz⟩
        · cases h
      · cases h
    · cases h
  · rw [if_neg hn] at h
    by_cases hq : n = sIq
    · rw [if_pos hq] at h
      cases hkd : kindM (valueM l kType) with
      | none =>
        have : iqM (.mk n l t k) = (zS, 6) := by
          unfold iqM; simp only [El.ats_mk, hkd]
        rw [this] at h; cases h
      | some kd =>
        rw [iqM_eq n l t k kd hkd] at h
        split at h
        · split at h
          · split at h
            · cases h
              exact ⟨Nat.zero_le _, nil, z_le, v _, z_le, z_le, z_le, z_le, z_le, zz⟩
            · cases h
          · rename_i e
            split at h
            · split at h
              · cases h
                exact ⟨Nat.zero_le _, nil, z_le, v _, z_le, z_le, z_le, z_le, El.fit_t (hk _ (by simp [El.ks])), zz⟩
              · cases h
            · split at h
              · rename_i s' hs
                cases h
                exact asked_le (hk _ (by simp [El.ks])) (v _) hs
              · cases h
          · cases h
        · cases h
    · rw [if_neg hq] at h
      split at h
      · rename_i kd must hp
        unfold simpleM at h
        split at h
        · cases h
          refine ⟨Nat.zero_le _, nil, z_le, z_le, z_le, z_le, z_le, ?_, z_le, num_le _⟩
          show (if kd = 7 then _ else _ : BA).size ≤ LIM
          split <;> exact v _
        · cases h
      · cases h
theorem tkI (l : List It) : List.take (Int.toNat (if (20 : Int) < ((itsD l).length : Int) then 20 else ((itsD l).length : Int))) (itsD l) = itsD (l.take 20) := by
  unfold itsD
  rw [List.length_map, List.map_take]
  split
  · rfl
  · rename_i h
    rw [Int.toNat_natCast, List.take_of_length_le (by simp), List.take_of_length_le (by simp; omega)]
def FBk : List AV → Option (Prop × AV) := fun al => match al with
  | [x, .ag [.d (.v (.string n)), .d (.sl a), .d (.v (.string t)), .d (.sl b)]] => some (∃ s l k, x = szV s ∧ FitS s ∧ a = atsD l ∧ b = ksD k ∧ FitE (.mk n l t k), mkB true)
  | _ => none
theorem cBk : PSound Tryd.prog 3 (detE FBk) := by
  refine det_fn (c := Tryd.b3) mixed KS_ok (gsound_pure cLive (gsound_pure cWriteA (gsound_pure cReadA (gsound_pure cSame (gsound_pure cRight (gsound_pure cCutA gsound_nil)))))) Tryd.func3 rfl rfl Tryd.call3 fun al p r q hF hp hq => ?_
  unfold FBk at hF; split at hF <;> cases hF
  rename_i x n a t b
  obtain ⟨s, l, k, rfl, hs, rfl, rfl, hf⟩ := hp
  have hs' : FitS { s with its := s.its.take 20 } := ⟨by show (s.its.take 20).length ≤ LIM; have := hs.its; rw [List.length_take]; omega, fun x hx => hs.it x (List.mem_of_mem_take hx), hs.ty, hs.id, hs.from_, hs.to_, hs.show_, hs.tok, hs.rea, hs.h⟩
  refine cast (rBack s n l t k q).symm ⟨rfl, fun _ => ⟨rfl, by split <;> omega, ?_⟩⟩
  simp only [tkI]
  refine ⟨{ s with its := s.its.take 20 }, rfl, hs', fun n1 l1 t1 k1 c hw => ?_⟩
  have hwd : c = 0 → El.mk n1 l1 t1 k1 = drawnM { s with its := s.its.take 20 } ∧ readM (.mk n1 l1 t1 k1) = ({ s with its := s.its.take 20 }, 0) := fun hc => by
    subst hc
    unfold writeM at hw
    split at hw
    · rename_i hc
      simp only [Prod.mk.injEq, and_true] at hw
      rw [← hw]
      exact ⟨rfl, Prod.ext hc.2.2.2 hc.2.2.1⟩
    · cases hw
  have back : ∀ n' l' t' k', cutM 4 (.mk n l t k) = .mk n' l' t' k' → FitE (.mk n' l' t' k') := fun n' l' t' k' hc => ⟨by rw [← hc]; exact fit_cut 4 _ hf.ok⟩
  have same : ∀ s : Sz, sameM s s = true := fun s => decide_eq_true rfl
  have wr : ∀ {e : El} {r : Sz} {n6 l6 t7 k6 c3}, readM e = (r, 0) → writeM r = (.mk n6 l6 t7 k6, c3) → c3 = 0 ∧ El.mk n6 l6 t7 k6 = drawnM r ∧ readM (.mk n6 l6 t7 k6) = (r, 0) := fun h1 h2 => by
    rw [write_back h1] at h2
    simp only [Prod.mk.injEq] at h2
    refine ⟨h2.2.symm, h2.1.symm, ?_⟩
    rw [← h2.1]; exact (read_back h1).2
  refine bcase_mk (fun hc => ?_) (fun hc => ?_)
  · obtain ⟨e1, e2⟩ := hwd (by simpa using hc)
    refine ⟨n1, l1, t1, k1, rfl, by rw [e1]; exact fit_drawn _ hs', fun r c1 hr => ?_⟩
    rw [e2] at hr
    cases hr
    refine bcaseF rfl ⟨{ s with its := s.its.take 20 }, { s with its := s.its.take 20 }, rfl, bcaseF (by rw [same]; rfl) ⟨n1, l1, t1, k1, rfl, read_ok e2, n, l, t, k, rfl, hf, fun n' l' t' k' hct => ⟨n', l', t', k', rfl, back n' l' t' k' hct, fun r1 c2 hr1 => bcase_mk (fun h => ?_) (fun h => ?_)⟩⟩⟩
    · have := read_err (.mk n' l' t' k') (by rw [hr1]; simpa using h)
      rw [hr1] at this
      have e : r1 = zS := this
      subst e; exact hq
    · have h0 : c2 = 0 := by simpa using h
      subst h0
      refine ⟨r1, rfl, fit_read (back n' l' t' k' hct) hr1, fun n6 l6 t7 k6 c3 hw2 => ?_⟩
      obtain ⟨g1, g2, g3⟩ := wr hr1 hw2
      subst g1
      refine ⟨n6, l6, t7, k6, rfl, by rw [g2]; exact fit_drawn _ (fit_read (back n' l' t' k' hct) hr1), fun r2 c4 hr2 => ?_⟩
      rw [g3] at hr2
      cases hr2
      exact bcaseT rfl (bcaseT rfl ⟨r1, r1, rfl, by rw [same]; exact hq⟩)
  · refine ⟨n, l, t, k, rfl, hf, fun n' l' t' k' hct => ⟨n', l', t', k', rfl, back n' l' t' k' hct, fun r1 c2 hr1 => bcase_mk (fun h => ?_) (fun h => ?_)⟩⟩
    · have := read_err (.mk n' l' t' k') (by rw [hr1]; simpa using h)
      rw [hr1] at this
      have e : r1 = zS := this
      subst e; exact hq
    · have h0 : c2 = 0 := by simpa using h
      subst h0
      refine ⟨r1, rfl, fit_read (back n' l' t' k' hct) hr1, fun n6 l6 t7 k6 c3 hw2 => ?_⟩
      obtain ⟨g1, g2, g3⟩ := wr hr1 hw2
      subst g1
      refine ⟨n6, l6, t7, k6, rfl, by rw [g2]; exact fit_drawn _ (fit_read (back n' l' t' k' hct) hr1), fun r2 c4 hr2 => ?_⟩
      rw [g3] at hr2
      cases hr2
      exact bcaseT rfl (bcaseT rfl ⟨r1, r1, rfl, by rw [same]; exact hq⟩)
theorem hBk : ∀ as', TyArgs Tryd.prog Tryd.f3.params.toList as' → ∃ p, FBk as' = some (p, mkB true) ∧ p := by
  intro as' h
  rw [Tryd.params3] at h
  obtain ⟨a, b, rfl, ha, hb⟩ := tyargs2 h
  obtain ⟨s, rfl, hs⟩ := arg_sz ha
  obtain ⟨n, l, t, k, rfl, hf⟩ := arg_el hb
  exact ⟨_, rfl, s, l, k, rfl, hs, rfl, rfl, hf⟩
end Go.Proofs.YtoobhfbamikanaaDoor
