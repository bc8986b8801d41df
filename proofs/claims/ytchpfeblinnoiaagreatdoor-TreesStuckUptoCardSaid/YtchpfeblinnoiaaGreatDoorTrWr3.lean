import Derived.Test.YtchpfeblinnoiaaGreatDoorTrFn
import Derived.Test.YtchpfeblinnoiaaGreatDoorTagsUnesc
import Derived.Laws.EntriesVeiled
set_option linter.unusedSimpArgs false
set_option linter.unusedVariables false
namespace Go.Proofs.YtchpfeblinnoiaaGreatDoor
open Go Go.AM Go.RowKit
theorem isB_keep {T e : TypeId} {B b : Nat} {bs : List Value} {w w' : World} (h : Lib.IsBuilder T e B b bs w) (hk : ∀ k, k < w.heap.size → w'.heap[k]? = w.heap[k]?) : Lib.IsBuilder T e B b bs w' := by
  have lt : ∀ {k : Nat} {o : Obj}, w.heap[k]? = some o → k < w.heap.size := fun hh => (Array.getElem?_eq_some_iff.1 hh).1
  have one : ∀ p, Lib.BuilderAt T e B b p bs w → Lib.BuilderAt T e B b p bs w' := fun p ⟨hB, v, hb, ⟨hl, ho⟩, hne⟩ => by
    refine ⟨hB, v, (hk _ (lt hb)).trans hb, ⟨hl, ?_⟩, hne⟩
    rcases ho with ho | ⟨g, cap, cur, hv, hg, hh, r⟩
    · exact .inl ho
    · exact .inr ⟨g, cap, cur, hv, hg, (hk _ (lt hh)).trans hh, r⟩
  exact h.imp (one _) (one _)
theorem copyCheckX (B b : Nat) (bs : List Value) (w : World) (h : Lib.IsBuilder 73 5 B b bs w) :
    Calls Tryz.prog 50 #[.pointer (some ⟨b, 0, none⟩)] w fun e w' => e = .returned (.tuple #[]) ∧ (Lib.BuilderAt 73 5 B b (.pointer (some ⟨b, 0, none⟩)) bs w' ∧ Below B w w' ∧ ∀ k, k ≠ b → w'.heap[k]? = w.heap[k]?) := by
  rcases h with h | h
  · refine (copyCheck_fresh b w h.cell0 h.shape h.frozen0).mono ?_
    rintro e w' ⟨rfl, rfl⟩
    exact ⟨rfl, h.used _, (Below.refl B w).setCell (p := ⟨b, 0, none⟩) h.1 _, fun k hk => Below.heap_setCell _ _ _ _ (by simpa using hk)⟩
  · refine (copyCheck_used b w h.cell0).mono ?_
    rintro e w' ⟨rfl, rfl⟩
    exact ⟨rfl, h, Below.refl B _, fun k hk => rfl⟩
set_option maxHeartbeats 2000000 in
set_option maxRecDepth 100000 in
theorem writeStringX (B b : Nat) (bs : List Value) (s : ByteArray) (w : World) (h : Lib.IsBuilder 73 5 B b bs w) (hlen : bs.length + s.size ≤ 140737488355328) (hBw : B ≤ w.heap.size) :
    Calls Tryz.prog 32 #[.pointer (some ⟨b, 0, none⟩), .string s] w fun e w' => e = .returned (.tuple #[.int .i64 s.size, .nilIface]) ∧ (Lib.BuilderAt 73 5 B b (.pointer (some ⟨b, 0, none⟩)) (bs ++ Lib.strCells s) w' ∧ Below B w w' ∧ ∀ k arr T fr, w.heap[k]? = some (.cells arr T fr) → T ≠ 5 → k ≠ b → w'.heap[k]? = w.heap[k]?) := by
  obtain ⟨i0, hi, hz0, hz1, hz2⟩ := info_parts Tryz.Builder_Extra_169.infoByte
  go_enter Tryz.func32, Tryz.ntmps32
  go_wp2_with (first | (go_at_call 50; refine (copyCheckX B b bs _ h).mono ?_; rintro e w1 ⟨rfl, ⟨hB, v, hbk, hown, hne⟩, hb1, hkb⟩; have c0 : w1.cell? ⟨b, 0, none⟩ = some (.pointer (some ⟨b, 0, none⟩)) := (by rw [Lib.cell_of_heap hbk]; rfl); have c1 : w1.cell? ⟨b, 1, none⟩ = some v := (by rw [Lib.cell_of_heap hbk]; rfl)) | (at_builtin; refine Lib.wpList_append_own_string _ rfl _ _ 71 9 rfl B 5 i0 Tryz.underlying71 Tryz.underlying9 hi hz0 hz1 hz2 _ _ _ rfl hown s rfl ?c3 ?c4 ?c5 ?_))
  case c3 => unfold maxLen; omega
  case c4 => omega
  case c5 => have := hb1.size; omega
  intro v' w2 hown' hgrow _
  have hlt : b < w1.heap.size := by
    rcases Nat.lt_or_ge b w1.heap.size with h' | h'
    · exact h'
    · simp [Array.getElem?_eq_none h'] at hbk
  have hb2 : w2.heap[b]? = some (.cells #[.pointer (some ⟨b, 0, none⟩), v] 73 (0, 0)) := by
    rw [hgrow.block b hlt (fun e => hne e.symm)]
    exact hbk
  have d0 : w2.cell? ⟨b, 0, none⟩ = some (.pointer (some ⟨b, 0, none⟩)) := by rw [Lib.cell_of_heap hb2]; rfl
  have d1 : w2.cell? ⟨b, 1, none⟩ = some v := by rw [Lib.cell_of_heap hb2]; rfl
  have f1 : w2.frozen? ⟨b, 1, none⟩ = false := Lib.frozen_of_heap hb2 1
  obtain ⟨ao, n', cap, rfl⟩ : ∃ ao n' cap, v' = .slice ao n' cap := by
    rcases hown'.2 with ⟨hv, _⟩ | ⟨g, cap, cur, hv, _⟩
    · exact ⟨_, _, _, hv⟩
    · exact ⟨_, _, _, hv⟩
  go_wp2
  go_ret2
  refine ⟨rfl, ?_, ?_, fun k arr T fr hk hT hkb' => ?_⟩
  · exact Lib.BuilderAt.put (T := 73) (e := 5) hB hb2 (bs' := bs ++ Lib.strCells s) (by simpa [Lib.strCells_length] using hown') Tryz.Builder_Extra_169.neB5
  · exact (hb1.grown hgrow (by have := hb1.size; omega) (fun k hk => (hown.lt k hk).1)).setCell (p := ⟨b, 1, none⟩) hB _
  · have hltk : k < w.heap.size := (Array.getElem?_eq_some_iff.1 hk).1
    have hk1 := (hkb k hkb').trans hk
    have hltk1 : k < w1.heap.size := (Array.getElem?_eq_some_iff.1 hk1).1
    have hg : some k ≠ v.ownBlock := by
      intro e
      rcases hown.2 with ⟨hv, _⟩ | ⟨g, cap, cur, hv, _, hh, _⟩
      · rw [hv] at e; cases e
      · rw [hv] at e
        simp only [Value.ownBlock, Option.some.injEq] at e
        subst e
        rw [hk1] at hh
        simp only [Option.some.injEq, Obj.cells.injEq] at hh
        exact hT hh.2.1
    rw [Below.heap_setCell _ _ _ _ (by simpa using hkb'), hgrow.block k hltk1 hg]
    exact hkb k hkb'
theorem wsB (B b : Nat) (l : List UInt8) (s : ByteArray) (w : World) (h : Lib.IsBuilder 73 5 B b (Lib.byteCells l) w) (hlen : l.length + s.size ≤ LIM) (hBw : B ≤ w.heap.size) :
    Calls Tryz.prog 32 #[.pointer (some ⟨b, 0, none⟩), .string s] w fun e w' => e = .returned (.tuple #[.int .i64 s.size, .nilIface]) ∧ Lib.IsBuilder 73 5 B b (Lib.byteCells (l ++ s.data.toList)) w' ∧ Below B w w' ∧ ∀ k arr T fr, w.heap[k]? = some (.cells arr T fr) → T ≠ 5 → k ≠ b → w'.heap[k]? = w.heap[k]? := by
  refine (writeStringX _ _ _ s w h (by rw [Lib.byteCells_length]; unfold LIM at hlen; omega) hBw).mono fun e w' ⟨a1, a2, a3, a4⟩ => ⟨a1, .inr ?_, a3, a4⟩
  rw [Lib.byteCells_append]; exact a2
end Go.Proofs.YtchpfeblinnoiaaGreatDoor

namespace Go.Proofs.YtchpfeblinnoiaaGreatDoor
open Go Go.AM Go.RowKit
set_option maxRecDepth 100000 in
set_option maxHeartbeats 1600000 in
theorem write1_calls (B b f : Nat) (w : World) (hT : Tabs (fun k => B ≤ k) w) (hb : Lib.IsBuilder 73 5 B b (Lib.byteCells []) w) (hlt : b < w.heap.size) (hBw : B ≤ w.heap.size) (ad1 ad2 : Option Addr) (n1 n2 : Nat) :
    Calls Tryz.prog 31 #[.agg #[.string ⟨#[97]⟩, .slice ad1 0 n1, .string ⟨#[120, 60]⟩, .slice ad2 0 n2], .pointer (some ⟨b, 0, none⟩), .pointer (some ⟨f, 0, none⟩)] w fun e w' =>
      e = .returned (.tuple #[]) ∧ Lib.IsBuilder 73 5 B b (Lib.byteCells [60, 97, 62, 120, 38, 108, 116, 59, 60, 47, 97, 62]) w' ∧ Below B w w' := by
  obtain ⟨el, hel⟩ : ∃ el : Obj, .cells #[.string ⟨#[97]⟩, .slice ad1 0 n1, .string ⟨#[120, 60]⟩, .slice ad2 0 n2] 32 = el := ⟨_, rfl⟩
  obtain ⟨w1, hw1⟩ : ∃ w1, w.alloc el = w1 := ⟨_, rfl⟩
  have z1 : w1.heap.size = w.heap.size + 1 := by rw [← hw1]; simp
  have B1 : Below w.heap.size w w1 := by rw [← hw1]; exact Below.alloc (Below.refl _ _) (Nat.le_refl _) _
  have hb1 := isB_keep hb B1.block
  have e1 : w1.heap[w.heap.size]? = some el := by rw [← hw1]; exact heap_alloc_new _ _
  have tb : ∀ W, Below B w W → Tabs (fun _ => False) W := fun W h => (hT.keeps (own' := fun k => B ≤ k) ⟨h.size, fun k hk hn => ⟨h.block k (by omega), hn⟩⟩).fewer fun _ h => h.elim
  have step : ∀ (W : World) (l : List UInt8) (s : ByteArray), Lib.IsBuilder 73 5 B b (Lib.byteCells l) W → W.heap[w.heap.size]? = some el → l.length + s.size ≤ LIM → Below B w W →
      Calls Tryz.prog 32 #[.pointer (some ⟨b, 0, none⟩), .string s] W fun e w' => e = .returned (.tuple #[.int .i64 s.size, .nilIface]) ∧ Lib.IsBuilder 73 5 B b (Lib.byteCells (l ++ s.data.toList)) w' ∧ w'.heap[w.heap.size]? = some el ∧ Below B w w' := fun W l s h1 h2 h3 h4 =>
    (wsB B b l s W h1 h3 (Nat.le_trans hBw h4.size)).mono fun e w' ⟨a1, a2, a3, a4⟩ => ⟨a1, a2, (a4 _ _ _ _ (h2.trans (congrArg some hel.symm)) (by decide) (by omega)).trans h2, h4.trans a3⟩
  have cl : ∀ (W : World) (j : Nat), W.heap[w.heap.size]? = some el → W.cell? ⟨w.heap.size, j, none⟩ = #[.string ⟨#[97]⟩, .slice ad1 0 n1, .string ⟨#[120, 60]⟩, .slice ad2 0 n2][j]? := fun W j h => by
    rw [Lib.cell_of_heap (h.trans (congrArg some hel.symm))]
  have s1 : ∀ W, Lib.IsBuilder 73 5 B b (Lib.byteCells []) W → W.heap[w.heap.size]? = some el → Below B w W →
      Calls Tryz.prog 32 #[.pointer (some ⟨b, 0, none⟩), .string ((⟨#[60]⟩ : ByteArray) ++ (⟨#[97]⟩ : ByteArray))] W fun e w' => (∃ v, e = .returned v) ∧ Lib.IsBuilder 73 5 B b (Lib.byteCells [60, 97]) w' ∧ w'.heap[w.heap.size]? = some el ∧ Below B w w' := fun W h1 h2 h3 =>
    (step W [] ((⟨#[60]⟩ : ByteArray) ++ (⟨#[97]⟩ : ByteArray)) h1 h2 (by unfold LIM; decide) h3).mono fun e w' ⟨a1, a2, a3⟩ => ⟨⟨_, a1⟩, (show [] ++ ((⟨#[60]⟩ : ByteArray) ++ (⟨#[97]⟩ : ByteArray)).data.toList = [60, 97] from rfl) ▸ a2, a3⟩
  have s2 : ∀ W, Lib.IsBuilder 73 5 B b (Lib.byteCells [60, 97]) W → W.heap[w.heap.size]? = some el → Below B w W →
      Calls Tryz.prog 32 #[.pointer (some ⟨b, 0, none⟩), .string ((⟨#[62]⟩ : ByteArray) ++ (⟨#[120, 38, 108, 116, 59]⟩ : ByteArray))] W fun e w' => (∃ v, e = .returned v) ∧ Lib.IsBuilder 73 5 B b (Lib.byteCells [60, 97, 62, 120, 38, 108, 116, 59]) w' ∧ w'.heap[w.heap.size]? = some el ∧ Below B w w' := fun W h1 h2 h3 =>
    (step W [60, 97] ((⟨#[62]⟩ : ByteArray) ++ (⟨#[120, 38, 108, 116, 59]⟩ : ByteArray)) h1 h2 (by unfold LIM; decide) h3).mono fun e w' ⟨a1, a2, a3⟩ => ⟨⟨_, a1⟩, (show [60, 97] ++ ((⟨#[62]⟩ : ByteArray) ++ (⟨#[120, 38, 108, 116, 59]⟩ : ByteArray)).data.toList = [60, 97, 62, 120, 38, 108, 116, 59] from rfl) ▸ a2, a3⟩
  have s3 : ∀ W, Lib.IsBuilder 73 5 B b (Lib.byteCells [60, 97, 62, 120, 38, 108, 116, 59]) W → W.heap[w.heap.size]? = some el → Below B w W →
      Calls Tryz.prog 32 #[.pointer (some ⟨b, 0, none⟩), .string ((⟨#[60, 47]⟩ : ByteArray) ++ (⟨#[97]⟩ : ByteArray) ++ (⟨#[62]⟩ : ByteArray))] W fun e w' => (∃ v, e = .returned v) ∧ Lib.IsBuilder 73 5 B b (Lib.byteCells [60, 97, 62, 120, 38, 108, 116, 59, 60, 47, 97, 62]) w' ∧ w'.heap[w.heap.size]? = some el ∧ Below B w w' := fun W h1 h2 h3 =>
    (step W [60, 97, 62, 120, 38, 108, 116, 59] ((⟨#[60, 47]⟩ : ByteArray) ++ (⟨#[97]⟩ : ByteArray) ++ (⟨#[62]⟩ : ByteArray)) h1 h2 (by unfold LIM; decide) h3).mono fun e w' ⟨a1, a2, a3⟩ => ⟨⟨_, a1⟩, (show [60, 97, 62, 120, 38, 108, 116, 59] ++ ((⟨#[60, 47]⟩ : ByteArray) ++ (⟨#[97]⟩ : ByteArray) ++ (⟨#[62]⟩ : ByteArray)).data.toList = [60, 97, 62, 120, 38, 108, 116, 59, 60, 47, 97, 62] from rfl) ▸ a2, a3⟩
  clear step
  have c10 := cl w1 0 e1
  simp at c10
  have k2 : (⟨#[120, 60]⟩ : ByteArray) = ⟨#[]⟩ ↔ False := by decide
  have k2' : ¬ (⟨#[120, 60]⟩ : ByteArray) = ⟨#[]⟩ := by decide
  go_enter Tryz.func31, Tryz.ntmps31
  go_wp2_with (go_at_call 32; go_must (refine (s1 w1 hb1 e1 (B1.mono hBw)).mono ?_); rintro e w2 ⟨⟨v2, rfl⟩, hb2, e2, B2⟩; have c20 := cl w2 0 e2; have c21 := cl w2 1 e2; have c22 := cl w2 2 e2; have c23 := cl w2 3 e2; simp at c20 c21 c22 c23)
  refine wp_loop_rounds 1 ?_
  rw [rounds_succ]
  have hR2 := right_calls ⟨#[120, 60]⟩ w2 (by decide) (tb w2 B2)
  rw [if_pos (by decide +kernel)] at hR2
  have hE2 := escape_calls w2 hR2
  clear hR2
  go_wp2_with (first | (go_at_call 33; go_must (refine hE2.mono ?_); rintro e w3 ⟨rfl, B3⟩; have hb3 := isB_keep hb2 B3.block; have e3 := (B3.block _ (Array.getElem?_eq_some_iff.1 e2).1).trans e2; have B3' := B2.trans (B3.mono (Nat.le_trans hBw B2.size))) | (go_at_call 32; go_must (refine (s2 w3 hb3 e3 B3').mono ?_); rintro e w4 ⟨⟨v4, rfl⟩, hb4, e4, B4⟩; have c40 := cl w4 0 e4; have c43 := cl w4 3 e4; simp at c40 c43))
  refine wp_loop_rounds 1 ?_
  rw [rounds_succ]
  go_wp2_with (go_at_call 32; go_must (refine (s3 w4 hb4 e4 B4).mono ?_); rintro e w5 ⟨⟨v5, rfl⟩, hb5, e5, B5⟩)
  go_end0
  exact ⟨rfl, hb5, B5⟩
end Go.Proofs.YtchpfeblinnoiaaGreatDoor

namespace Go.Proofs.YtchpfeblinnoiaaGreatDoor
open Go Go.AM Go.RowKit
theorem wr1 (w : World) (hT : Tabs (fun _ => False) w) (o : Obj) (ad1 ad2 : Option Addr) (n1 n2 : Nat) :
    Calls Tryz.prog 31 #[.agg #[.string ⟨#[97]⟩, .slice ad1 0 n1, .string ⟨#[120, 60]⟩, .slice ad2 0 n2], .pointer (some ⟨w.heap.size, 0, none⟩), .pointer (some ⟨w.heap.size + 1, 0, none⟩)] ((w.alloc (Obj.cells #[Value.pointer none, Value.slice none 0 0] 73)).alloc o) fun e w' =>
      e = .returned (.tuple #[]) ∧ Lib.IsBuilder 73 5 w.heap.size w.heap.size (Lib.byteCells [60, 97, 62, 120, 38, 108, 116, 59, 60, 47, 97, 62]) w' ∧ Below w.heap.size w w' := by
  have hb := Lib.fresh_isBuilder 73 5 w
  have B1 : Below w.heap.size w (w.alloc (Obj.cells #[Value.pointer none, Value.slice none 0 0] 73)) := Below.alloc (Below.refl _ _) (Nat.le_refl _) _
  have B2 : Below w.heap.size w ((w.alloc (Obj.cells #[Value.pointer none, Value.slice none 0 0] 73)).alloc o) := Below.alloc B1 (by simp) _
  have hT' : Tabs (fun k => w.heap.size ≤ k) ((w.alloc (Obj.cells #[Value.pointer none, Value.slice none 0 0] 73)).alloc o) := by
    have h0 : Tabs (fun k => w.heap.size ≤ k) w := fun x hx => ⟨by have := (hT x hx).2.1; omega, (hT x hx).2⟩
    exact h0.keeps ⟨B2.size, fun k hk hn => ⟨B2.block k hk, hn⟩⟩
  refine (write1_calls w.heap.size w.heap.size (w.heap.size + 1) _ hT' (isB_keep hb fun k hk => Below.heap_alloc _ _ _ hk) (by simp <;> omega) (by simp <;> omega) ad1 ad2 n1 n2).mono ?_
  rintro e w' ⟨rfl, h1, h2⟩
  exact ⟨rfl, h1, B2.trans h2⟩
set_option maxRecDepth 100000 in
set_option maxHeartbeats 1600000 in
theorem write_calls (w : World) (hT : Tabs (fun _ => False) w) (ad1 ad2 : Option Addr) (n1 n2 : Nat) :
    Calls Tryz.prog 17 #[.agg #[.string ⟨#[97]⟩, .slice ad1 0 n1, .string ⟨#[120, 60]⟩, .slice ad2 0 n2]] w fun e w' => e = .returned (.tuple #[.string ⟨#[60, 97, 62, 120, 38, 108, 116, 59, 60, 47, 97, 62]⟩, .int .i64 0]) ∧ Below w.heap.size w w' := by
  obtain ⟨el, hel⟩ : ∃ el : Obj, .cells #[.string ⟨#[97]⟩, .slice ad1 0 n1, .string ⟨#[120, 60]⟩, .slice ad2 0 n2] 32 = el := ⟨_, rfl⟩
  obtain ⟨w1, hw1⟩ : ∃ w1, w.alloc el = w1 := ⟨_, rfl⟩
  have z1 : w1.heap.size = w.heap.size + 1 := by rw [← hw1]; simp
  have B1 : Below w.heap.size w w1 := by rw [← hw1]; exact Below.alloc (Below.refl _ _) (Nat.le_refl _) _
  have e1 : w1.heap[w.heap.size]? = some el := by rw [← hw1]; exact heap_alloc_new _ _
  have cl : ∀ (W : World) (j : Nat), W.heap[w.heap.size]? = some el → W.cell? ⟨w.heap.size, j, none⟩ = #[.string ⟨#[97]⟩, .slice ad1 0 n1, .string ⟨#[120, 60]⟩, .slice ad2 0 n2][j]? := fun W j h => by
    rw [Lib.cell_of_heap (h.trans (congrArg some hel.symm))]
  have c10 := cl w1 0 e1; have c11 := cl w1 1 e1; have c12 := cl w1 2 e1; have c13 := cl w1 3 e1
  simp at c10 c11 c12 c13
  have hR := right_elA ad1 ad2 n1 n2 w1 (tabs_below B1 hT)
  go_enter Tryz.func17, Tryz.ntmps17
  go_wp2_with (first | (go_at_call 21; go_must (refine hR.mono ?_); rintro e w2 ⟨rfl, B2⟩; have e2 := (B2.block _ (Array.getElem?_eq_some_iff.1 e1).1).trans e1; have e2k : w.heap.size < w2.heap.size := (Array.getElem?_eq_some_iff.1 e2).1; have e2n : w.heap.size ≠ w2.heap.size := (Nat.ne_of_lt e2k); have e2m : w.heap.size ≠ w2.heap.size + 1 := (by omega); have e2p : w.heap.size < w2.heap.size + 1 := (by omega); have c20 := cl w2 0 e2; have c21 := cl w2 1 e2; have c22 := cl w2 2 e2; have c23 := cl w2 3 e2; simp at c20 c21 c22 c23) | (go_at_call 31; go_must (refine (wr1 w2 (tabs_below B2 (tabs_below B1 hT)) _ ad1 ad2 n1 n2).mono ?_); rintro e w4 ⟨rfl, hb4, B4⟩) | (go_at_call 34; go_must (refine (Tryz.Builder_String_any w2.heap.size w2.heap.size _ w4 hb4 B4.size).mono ?_); rintro e w5 ⟨rfl, B5⟩))
  go_ret2
  refine ⟨rfl, ?_⟩
  exact B1.trans ((B2.trans ((B4.trans B5).mono B2.size)).mono B1.size)
def FWr : List AV → Option (Prop × AV) := fun al => match al with
  | [.ag [.d (.v (.string s)), .d (.sl []), .d (.v (.string t)), .d (.sl [])]] => if s = ⟨#[97]⟩ ∧ t = ⟨#[120, 60]⟩ then some (True, .tp [mkS ⟨#[60, 97, 62, 120, 38, 108, 116, 59, 60, 47, 97, 62]⟩, mkI .i64 0]) else none
  | _ => none
theorem cWr : PSound Tryz.prog 17 (detE FWr) := by
  refine ⟨Tryz.call17, fun ext w al vs q hext hT hlen hrel h => ?_⟩
  unfold detE at h
  split at h
  · rename_i p r hF
    unfold FWr at hF
    split at hF
    · split at hF
      · rename_i s _ hs
        cases hF
        obtain ⟨rfl, rfl⟩ := hs
        have hv := hrel 0 (by simp)
        obtain ⟨v, rfl⟩ : ∃ v, vs = #[v] := ⟨_, arr1 (by simpa using hlen) rfl⟩
        simp only [List.getElem_cons_zero] at hv
        cases hv with
        | @ag _ arr hl hr =>
          have e0 := (inv_v (hr 0 (by simp))).1
          obtain ⟨ad1, n1, e1, -⟩ := inv_sl_shape (hr 1 (by simp))
          have e2 := (inv_v (hr 2 (by simp))).1
          obtain ⟨ad2, n2, e3, -⟩ := inv_sl_shape (hr 3 (by simp))
          have hl4 : arr.size = 4 := by simpa using hl
          have ha : arr = #[.string ⟨#[97]⟩, .slice ad1 0 n1, .string ⟨#[120, 60]⟩, .slice ad2 0 n2] := by
            apply Array.ext
            · simpa using hl4
            · intro i h1 h2
              have gd : arr.getD i undef = arr[i] := by simp [Array.getD_eq_getD_getElem?, h1]
              rw [← gd]
              have hh : i = 0 ∨ i = 1 ∨ i = 2 ∨ i = 3 := by omega
              rcases hh with rfl | rfl | rfl | rfl
              · exact e0
              · exact e1
              · exact e2
              · exact e3
          subst ha
          refine (write_calls w (hT.fewer fun _ h => h.elim) ad1 ad2 n1 n2).mono fun e w' ⟨h1, h2⟩ => ⟨_, _, h1, h.2, ?_, h2⟩
          refine .tp rfl fun j hj => ?_
          have hh : j = 0 ∨ j = 1 := by simp at hj; omega
          rcases hh with rfl | rfl
          · exact mkS_rel (by decide)
          · exact mkI_rel
      · cases hF
    · cases hF
  · exact h.elim
end Go.Proofs.YtchpfeblinnoiaaGreatDoor
