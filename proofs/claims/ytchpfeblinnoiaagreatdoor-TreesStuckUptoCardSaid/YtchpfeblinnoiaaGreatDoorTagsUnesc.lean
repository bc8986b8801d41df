import Derived.Test.YtchpfeblinnoiaaGreatDoorTagsCut
set_option linter.unusedSimpArgs false
set_option linter.unusedVariables false
namespace Go.Proofs.YtchpfeblinnoiaaGreatDoor
open Go Go.AM Go.RowKit
theorem builder_below {T e : TypeId} {B b : Nat} {bs : List Value} {w w' : World} (h : Lib.IsBuilder T e B b bs w) (hb : Below w.heap.size w w') : Lib.IsBuilder T e B b bs w' := by
  have at_ : ∀ p, Lib.BuilderAt T e B b p bs w → Lib.BuilderAt T e B b p bs w' := by
    rintro p ⟨hB, v, hbk, ⟨h1, h2⟩, hne⟩
    have keep : ∀ {k : Nat} {o : Obj}, w.heap[k]? = some o → w'.heap[k]? = some o := fun {k o} hk => (hb.block k (Array.getElem?_eq_some_iff.1 hk).1).trans hk
    refine ⟨hB, v, keep hbk, ⟨h1, ?_⟩, hne⟩
    rcases h2 with h2 | ⟨g, cap, cur, a1, a2, a3, a4⟩
    · exact .inl h2
    · exact .inr ⟨g, cap, cur, a1, a2, keep a3, a4⟩
  rcases h with h | h
  · exact .inl (at_ _ h)
  · exact .inr (at_ _ h)
def unescN : Nat → ByteArray → List UInt8 → Option (List UInt8)
  | 0, _, _ => none
  | n + 1, s, acc => if cutB 38 s = true then
      (if cutB 59 (cutD 38 s) = true ∧ decide (signOf (cutU 59 (cutD 38 s)) ≠ 0) = true then unescN n (cutD 59 (cutD 38 s)) (acc ++ (cutU 38 s).data.toList ++ (signS (cutU 59 (cutD 38 s))).data.toList) else none)
    else some (acc ++ (cutU 38 s).data.toList)
def unescV : Option (List UInt8) → ByteArray × Int
  | some l => (⟨l.toArray⟩, 0)
  | none => (⟨#[]⟩, 3)
def unescR (s : ByteArray) : ByteArray × Int := unescV (unescN (s.size + 1) s [])
def unesc (s : ByteArray) : ByteArray × Int := if rightB s = true then (if cutB 60 s = true then (⟨#[]⟩, 3) else unescR s) else (⟨#[]⟩, 2)
theorem unescN_len : ∀ (n : Nat) (s : ByteArray) (acc l : List UInt8), unescN n s acc = some l → l.length ≤ acc.length + s.size
  | 0, s, acc, l, h => by cases h
  | n + 1, s, acc, l, h => by
    have el : ∀ t : ByteArray, t.data.toList.length = t.size := fun t => Array.length_toList
    unfold unescN at h
    split at h
    · rename_i h1
      split at h
      · rename_i h2
        have ih := unescN_len n _ _ _ h
        have c1 := cut_sizes h1
        have c2 := cut_sizes h2.1
        have c3 := signS_size (cutU 59 (cutD 38 s))
        simp only [List.length_append, el] at ih
        omega
      · cases h
    · cases h
      have := cutU_le 38 s
      simp only [List.length_append, el]
      omega
set_option maxHeartbeats 8000000 in
set_option maxRecDepth 1000000 in
theorem unesc_calls (s : ByteArray) (w : World) (hs : s.size ≤ LIM) (hT : Tabs (fun _ => False) w) :
    Calls Tryz.prog 80 #[.string s] w fun e w' => e = .returned (.tuple #[.string (unesc s).1, .int .i64 (unesc s).2]) ∧ Below w.heap.size w w' := by
  have cR := right_calls s w hs hT
  obtain ⟨A1, A2, hA⟩ : ∃ A1 A2, unesc s = (A1, A2) := ⟨_, _, rfl⟩
  rw [hA]
  show Calls _ _ _ _ fun e w' => e = .returned (.tuple #[.string A1, .int .i64 A2]) ∧ _
  cases hR : rightB s with
  | false =>
    simp only [hR, Bool.false_eq_true, if_false] at cR
    have : (A1, A2) = (⟨#[]⟩, 2) := by rw [← hA]; simp [unesc, hR]
    cases this
    go_enter Tryz.func80, Tryz.ntmps80
    go_wp2_with (go_at_call 51; refine cR.mono ?_; rintro e w1 ⟨rfl, hb1⟩)
    go_ret2
    exact ⟨rfl, hb1⟩
  | true =>
    simp only [hR, if_true] at cR
    have cC := fun W => Tryz.strings_Contains_one s 60 W
    cases hC : cutB 60 s with
    | true =>
      have hC' : decide (0 ≤ Lib.indexByte s.data.toList 60) = true := hC
      simp only [hC'] at cC
      have : (A1, A2) = (⟨#[]⟩, 3) := by rw [← hA]; simp [unesc, hR, hC]
      cases this
      go_enter Tryz.func80, Tryz.ntmps80
      go_wp2_with (first | (go_at_call 51; refine cR.mono ?_; rintro e w1 ⟨rfl, hb1⟩) | (go_at_call 92; refine (cC _).mono ?_; rintro e w2 ⟨rfl, rfl⟩))
      go_ret2
      exact ⟨rfl, hb1⟩
    | false =>
      have hC' : decide (0 ≤ Lib.indexByte s.data.toList 60) = false := hC
      simp only [hC'] at cC
      have hA : unescR s = (A1, A2) := by rw [← hA]; simp [unesc, hR, hC]
      go_enter Tryz.func80, Tryz.ntmps80
      go_wp2_with (first | (go_at_call 51; refine cR.mono ?_; rintro e w1 ⟨rfl, hb1⟩) | (go_at_call 92; refine (cC _).mono ?_; rintro e w2 ⟨rfl, rfl⟩))
      have hcut : ∀ (c : UInt8) (x : ByteArray) (W : World), x.size ≤ LIM → Below w2.heap.size w2 W → Calls Tryz.prog 93 #[.string x, .string ⟨#[c]⟩] W fun e w' => e = .returned (.tuple #[.string (cutU c x), .string (cutD c x), .bool (cutB c x)]) ∧ Below W.heap.size W w' :=
        fun c x W hx hW => cut_calls c x W hx (tabs_below (hb1.trans (hW.mono hb1.size)) hT)
      have hnam : ∀ (x : ByteArray) (W : World), x.size ≤ LIM → Below w2.heap.size w2 W → Calls Tryz.prog 94 #[.string x] W fun e w' => e = .returned (.tuple #[.string (signS x), .bool (decide (signOf x ≠ 0))]) ∧ Below W.heap.size W w' :=
        fun x W hx hW => named_calls x W hx (tabs_below (hb1.trans (hW.mono hb1.size)) hT)
      have hwr : ∀ (l : List UInt8) (x : ByteArray) (W : World), l.length + x.size ≤ LIM → Lib.IsBuilder 73 5 w2.heap.size w2.heap.size (Lib.byteCells l) W → Below w2.heap.size w2 W →
          Calls Tryz.prog 32 #[.pointer (some ⟨w2.heap.size, 0, none⟩), .string x] W fun e w' => e = .returned (.tuple #[.int .i64 x.size, .nilIface]) ∧ Lib.IsBuilder 73 5 w2.heap.size w2.heap.size (Lib.byteCells (l ++ x.data.toList)) w' ∧ Below w2.heap.size W w' := fun l x W hx hB hW => by
        refine (writeString _ _ _ x W hB (by rw [Lib.byteCells_length]; unfold LIM at hx; omega) hW.size).mono fun e w' ⟨a1, a2, a3⟩ => ⟨a1, .inr ?_, a3⟩
        rw [Lib.byteCells_append]; exact a2
      clear cR cC
      obtain ⟨U, hU⟩ : ∃ U, unescN (s.size + 1) s [] = U := ⟨_, rfl⟩
      have hUA : unescV U = (A1, A2) := by rw [← hU]; exact hA
      go_loopg [0] (s.size + 1) (fun gk s0 wx => Below w2.heap.size w2 wx ∧ ∃ (t : ByteArray) (l : List UInt8), s0 = .string t ∧ Lib.IsBuilder 73 5 w2.heap.size w2.heap.size (Lib.byteCells l) wx ∧ unescN gk t l = U ∧ t.size < gk ∧ l.length + t.size ≤ s.size)
      case atStart => exact ⟨(Below.refl _ _).alloc (Nat.le_refl _) _, s, [], rfl, Lib.fresh_isBuilder _ _ _, hU, by omega, by simp⟩
      case round =>
        obtain ⟨hbr, t, l, rfl, hB, hN, hfu, hlen⟩ := hrel
        obtain ⟨g', rfl⟩ : ∃ g', gk = g' + 1 := ⟨gk - 1, by omega⟩
        have ht : t.size ≤ LIM := by omega
        have hu1 := cutU_le 38 t
        have z1 := fun h => cut_sizes (c := 38) (s := t) h
        have h1c := hcut 38 t
        unfold unescN at hN
        obtain ⟨H, hH⟩ : ∃ H, cutU 38 t = H := ⟨_, rfl⟩
        obtain ⟨R, hR'⟩ : ∃ R, cutD 38 t = R := ⟨_, rfl⟩
        obtain ⟨M, hM⟩ : ∃ M, cutB 38 t = M := ⟨_, rfl⟩
        rw [hH, hR', hM] at z1
        rw [hH] at hu1
        rw [hH, hR', hM] at hN
        simp only [hH, hR', hM] at h1c
        have hu2 := cutU_le 59 R
        have hd2 := cutD_le 59 R
        have z2 := fun h => cut_sizes (c := 59) (s := R) h
        have h2c := hcut 59 R
        obtain ⟨Nm, hNm⟩ : ∃ Nm, cutU 59 R = Nm := ⟨_, rfl⟩
        obtain ⟨Bh, hBh⟩ : ∃ Bh, cutD 59 R = Bh := ⟨_, rfl⟩
        obtain ⟨E, hE⟩ : ∃ E, cutB 59 R = E := ⟨_, rfl⟩
        rw [hNm, hBh, hE] at z2
        rw [hNm] at hu2
        rw [hBh] at hd2
        rw [hNm, hBh, hE] at hN
        simp only [hNm, hBh, hE] at h2c
        have h3c := hnam Nm
        have z3 := signS_size Nm
        obtain ⟨Sg, hSg⟩ : ∃ Sg, signS Nm = Sg := ⟨_, rfl⟩
        obtain ⟨Kn, hKn⟩ : ∃ Kn, decide (signOf Nm ≠ 0) = Kn := ⟨_, rfl⟩
        rw [hSg] at z3
        rw [hSg, hKn] at hN
        simp only [hSg, hKn] at h3c
        have el : ∀ t : ByteArray, t.data.toList.length = t.size := fun t => Array.length_toList
        have z4 : (l ++ H.data.toList).length = l.length + H.size := by rw [List.length_append, el]
        have hw1 := hwr l H
        have hw2 := hwr (l ++ H.data.toList) Sg
        obtain ⟨LL, hLL⟩ : ∃ LL, l ++ H.data.toList = LL := ⟨_, rfl⟩
        rw [hLL] at hN z4 hw1 hw2
        clear hH hR' hNm hBh hE hSg hKn hcut hnam hwr hA hU
        cases M with
        | false =>
          rw [if_neg (by simp)] at hN
          subst hN
          obtain ⟨rfl, rfl⟩ : A1 = ⟨LL.toArray⟩ ∧ A2 = 0 := by
            have := Prod.mk.inj hUA; exact ⟨this.1.symm, this.2.symm⟩
          have hstr : ∀ (W : World), Lib.IsBuilder 73 5 w2.heap.size w2.heap.size (Lib.byteCells LL) W → Below w2.heap.size w2 W → _ := fun W hBW hW => Tryz.Builder_String_any w2.heap.size w2.heap.size LL W hBW hW.size
          go_wp2_with (first
            | (go_at_call 34; refine (hstr _ hB4 hb4').mono ?_; rintro e w5 ⟨rfl, hb5⟩)
            | (go_at_call 32; refine (hw1 _ (by omega) hB3 hb3').mono ?_; rintro e w4 ⟨rfl, hB4, hb4⟩; have hb4' : Below w2.heap.size w2 w4 := hb3'.trans hb4)
            | (go_at_call 93; refine (h1c _ ht hbr).mono ?_; rintro e w3 ⟨rfl, hb3⟩; have hb3' : Below w2.heap.size w2 w3 := hbr.trans (hb3.mono hbr.size); have hB3 := builder_below hB hb3))
          go_ret2
          exact ⟨rfl, hb1.trans ((hb4'.trans hb5).mono hb1.size)⟩
        | true =>
          rw [if_pos rfl] at hN
          have z1 := z1 rfl
          cases E with
          | true =>
            have z2 := z2 rfl
            cases Kn with
            | true =>
              rw [if_pos ⟨rfl, rfl⟩] at hN
              go_wp2_with (first
                | (go_at_call 32; refine (hw2 _ (by omega) hB6 hb6').mono ?_; rintro e w7 ⟨rfl, hB7, hb7⟩; have hb7' : Below w2.heap.size w2 w7 := hb6'.trans hb7)
                | (go_at_call 94; refine (h3c _ (by omega) hb5').mono ?_; rintro e w6 ⟨rfl, hb6⟩; have hb6' : Below w2.heap.size w2 w6 := hb5'.trans (hb6.mono hb5'.size); have hB6 := builder_below hB5 hb6)
                | (go_at_call 93; refine (h2c _ (by omega) hb4').mono ?_; rintro e w5 ⟨rfl, hb5⟩; have hb5' : Below w2.heap.size w2 w5 := hb4'.trans (hb5.mono hb4'.size); have hB5 := builder_below hB4 hb5)
                | (go_at_call 32; refine (hw1 _ (by omega) hB3 hb3').mono ?_; rintro e w4 ⟨rfl, hB4, hb4⟩; have hb4' : Below w2.heap.size w2 w4 := hb3'.trans hb4)
                | (go_at_call 93; refine (h1c _ ht hbr).mono ?_; rintro e w3 ⟨rfl, hb3⟩; have hb3' : Below w2.heap.size w2 w3 := hbr.trans (hb3.mono hbr.size); have hB3 := builder_below hB hb3))
              go_roundg g'
              case measure => omega
              case rel => exact ⟨hb7', _, _, rfl, hB7, hN, by omega, by rw [List.length_append, z4, el]; omega⟩
            | false =>
              rw [if_neg (by simp)] at hN
              subst hN
              obtain ⟨rfl, rfl⟩ : A1 = ⟨#[]⟩ ∧ A2 = 3 := by
                have := Prod.mk.inj hUA; exact ⟨this.1.symm, this.2.symm⟩
              go_wp2_with (first
                | (go_at_call 94; refine (h3c _ (by omega) hb5').mono ?_; rintro e w6 ⟨rfl, hb6⟩; have hb6' : Below w2.heap.size w2 w6 := hb5'.trans (hb6.mono hb5'.size))
                | (go_at_call 93; refine (h2c _ (by omega) hb4').mono ?_; rintro e w5 ⟨rfl, hb5⟩; have hb5' : Below w2.heap.size w2 w5 := hb4'.trans (hb5.mono hb4'.size))
                | (go_at_call 32; refine (hw1 _ (by omega) hB3 hb3').mono ?_; rintro e w4 ⟨rfl, hB4, hb4⟩; have hb4' : Below w2.heap.size w2 w4 := hb3'.trans hb4)
                | (go_at_call 93; refine (h1c _ ht hbr).mono ?_; rintro e w3 ⟨rfl, hb3⟩; have hb3' : Below w2.heap.size w2 w3 := hbr.trans (hb3.mono hbr.size); have hB3 := builder_below hB hb3))
              go_ret2
              exact ⟨rfl, hb1.trans (hb6'.mono hb1.size)⟩
          | false =>
            rw [if_neg (by simp)] at hN
            subst hN
            obtain ⟨rfl, rfl⟩ : A1 = ⟨#[]⟩ ∧ A2 = 3 := by
              have := Prod.mk.inj hUA; exact ⟨this.1.symm, this.2.symm⟩
            cases Kn
            all_goals
              go_wp2_with (first
                | (go_at_call 94; refine (h3c _ (by omega) hb5').mono ?_; rintro e w6 ⟨rfl, hb6⟩; have hb6' : Below w2.heap.size w2 w6 := hb5'.trans (hb6.mono hb5'.size))
                | (go_at_call 93; refine (h2c _ (by omega) hb4').mono ?_; rintro e w5 ⟨rfl, hb5⟩; have hb5' : Below w2.heap.size w2 w5 := hb4'.trans (hb5.mono hb4'.size))
                | (go_at_call 32; refine (hw1 _ (by omega) hB3 hb3').mono ?_; rintro e w4 ⟨rfl, hB4, hb4⟩; have hb4' : Below w2.heap.size w2 w4 := hb3'.trans hb4)
                | (go_at_call 93; refine (h1c _ ht hbr).mono ?_; rintro e w3 ⟨rfl, hb3⟩; have hb3' : Below w2.heap.size w2 w3 := hbr.trans (hb3.mono hbr.size); have hB3 := builder_below hB hb3))
              go_ret2
              exact ⟨rfl, hb1.trans (hb6'.mono hb1.size)⟩
def F30 : List AV → Option (Prop × AV) := fun al => match al with
  | [.d (.v (.string s))] => some (True, mkI .i64 (if rightB s = true then 0 else 2))
  | _ => none
theorem c30 : PSound Tryz.prog 51 (detE F30) := by
  refine ps1t Tryz.call51 fun al q h => ?_
  unfold detE at h
  split at h
  · rename_i p r hF
    unfold F30 at hF; split at hF <;> cases hF
    rename_i s
    refine ⟨_, rfl, fun p0 w hT => ?_⟩
    exact (right_calls s w (by simpa [plainV] using p0) hT).mono fun e w' ⟨h1, h2⟩ => ⟨_, _, h1, h.2, fun X => mkI_rel, h2⟩
  · exact h.elim
theorem unesc_size (s : ByteArray) : (unesc s).1.size ≤ s.size := by
  unfold unesc unescR
  split
  · split
    · exact Nat.zero_le _
    · cases h : unescN (s.size + 1) s [] with
      | none => exact Nat.zero_le _
      | some l =>
        have := unescN_len _ _ _ _ h
        show l.toArray.size ≤ _
        simpa using this
  · exact Nat.zero_le _
def F29 : List AV → Option (Prop × AV) := fun al => match al with
  | [.d (.v (.string s))] => some (True, .tp [mkS (unesc s).1, mkI .i64 (unesc s).2])
  | _ => none
theorem c29 : PSound Tryz.prog 80 (detE F29) := by
  refine ps1t Tryz.call80 fun al q h => ?_
  unfold detE at h
  split at h
  · rename_i p r hF
    unfold F29 at hF; split at hF <;> cases hF
    rename_i s
    refine ⟨_, rfl, fun p0 w hT => ?_⟩
    have hs : s.size ≤ LIM := by simpa [plainV] using p0
    refine (unesc_calls s w hs hT).mono fun e w' ⟨h1, h2⟩ => ⟨_, _, h1, h.2, fun X => .tp rfl fun j hj => ?_, h2⟩
    match j, hj with
    | 0, _ => exact mkS_rel (Nat.le_trans (unesc_size s) hs)
    | 1, _ => exact mkI_rel
    | j + 2, h => exact absurd h (by simp)
  · exact h.elim
end Go.Proofs.YtchpfeblinnoiaaGreatDoor
