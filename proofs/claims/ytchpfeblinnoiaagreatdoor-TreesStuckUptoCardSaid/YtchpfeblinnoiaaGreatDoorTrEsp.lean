import Derived.Test.YtchpfeblinnoiaaGreatDoorTrOnce
import Derived.Deep.WholeRow
import Derived.Deep.LoopGhost
import Derived.Handy
import Derived.Laws.IdiomStrings
import Derived.Laws.IdiomCopy
set_option linter.unusedSimpArgs false
set_option linter.unusedVariables false
namespace Go.Proofs.YtchpfeblinnoiaaGreatDoor
open Go Go.RowKit Go.Proofs
def repT : List ByteArray := [⟨#[38]⟩, ⟨#[38, 97, 109, 112, 59]⟩, ⟨#[60]⟩, ⟨#[38, 108, 116, 59]⟩, ⟨#[62]⟩, ⟨#[38, 103, 116, 59]⟩, ⟨#[34]⟩, ⟨#[38, 113, 117, 111, 116, 59]⟩, ⟨#[39]⟩, ⟨#[38, 97, 112, 111, 115, 59]⟩]
structure RepO (b c cap : Nat) (w : World) : Prop where
  c0 : w.cell? ⟨b, 0, none⟩ = some (.int .u32 0)
  c1 : w.cell? ⟨b, 1, none⟩ = some (.int .i32 0)
  c3 : w.cell? ⟨b, 3, none⟩ = some .nilIface
  c4 : w.cell? ⟨b, 4, none⟩ = some (.slice (some ⟨c, 0, none⟩) 10 cap)
  f0 : w.frozen? ⟨b, 0, none⟩ = false
  f1 : w.frozen? ⟨b, 1, none⟩ = false
  f3 : w.frozen? ⟨b, 3, none⟩ = false
  f4 : w.frozen? ⟨b, 4, none⟩ = false
  s : ∀ i, i < 10 → w.cell? ⟨c, i, none⟩ = some (.string (repT.getD i ⟨#[]⟩))
structure RepB (b c cap : Nat) (w : World) : Prop where
  c4 : w.cell? ⟨b, 4, none⟩ = some (.slice (some ⟨c, 0, none⟩) 10 cap)
  s : ∀ i, i < 10 → w.cell? ⟨c, i, none⟩ = some (.string (repT.getD i ⟨#[]⟩))
set_option maxRecDepth 100000 in
set_option maxHeartbeats 1600000 in
theorem escaper_calls (w : World) : Calls Tryz.prog 52 #[] w fun e w' => e = .returned (.pointer (some ⟨w.heap.size + 1 + 1, 0, none⟩)) ∧ (∃ cap, RepO (w.heap.size + 1 + 1) (w.heap.size + 1) cap w') ∧ Below w.heap.size w w' ∧ w'.heap.size = w.heap.size + 1 + 1 + 1 := by
  have t9 := Tryz.underlying9
  go_enter Tryz.func52, Tryz.ntmps52
  go_wp2_with (go_at_call 68; go_in)
  first | go_ret | go_end0
  refine ⟨by first | rfl | simp, ⟨(Question.appendCap 10 0 9).cut (w.tape w.drawn (Question.appendCap 10 0 9)), ?_⟩, by go_grown, by simp⟩
  refine ⟨?_, ?_, ?_, ?_, ?_, ?_, ?_, ?_, fun i hi => ?_⟩
  case refine_9 =>
    rw [World.cell?_drew, World.cell?_alloc_lt _ _ _ (by simp), World.cell?_alloc_at _ _ _ _ (by simp), Array.getElem?_append_left (by simpa using hi)]
    have hh : i = 0 ∨ i = 1 ∨ i = 2 ∨ i = 3 ∨ i = 4 ∨ i = 5 ∨ i = 6 ∨ i = 7 ∨ i = 8 ∨ i = 9 := by omega
    rcases hh with rfl | rfl | rfl | rfl | rfl | rfl | rfl | rfl | rfl | rfl <;> rfl
  all_goals first | (go_simp; done) | (simp; done) | trace_state
end Go.Proofs.YtchpfeblinnoiaaGreatDoor

namespace Go.Proofs.YtchpfeblinnoiaaGreatDoor
open Go Go.RowKit Go.Proofs
def chT (j : Nat) : Nat := [38, 60, 62, 34, 39].getD j 0
def rpT (j : Nat) : ByteArray := repT.getD (2 * j + 1) ⟨#[]⟩
structure TabI (w : World) (d e k : Nat) (W : World) : Prop where
  bel : Below w.heap.size w W
  we : w.heap.size ≤ e
  wd : w.heap.size ≤ d
  de : d ≠ e
  es : e < W.heap.size
  ds : d < W.heap.size
  len : W.cell? ⟨d, 256, none⟩ = some (.slice (some ⟨e, 0, none⟩) (5 - k) 5)
  tos : ∀ i, i < 5 → ∃ s, W.cell? ⟨e, i, none⟩ = some (.string s) ∧ (i < 5 - k → s = ⟨#[UInt8.ofNat (chT (4 - i))]⟩)
  nil : ∀ i, i < 256 → (∀ j, k ≤ j → j < 5 → i ≠ chT j) → W.cell? ⟨d, i, none⟩ = some (.slice none 0 0)
  rep : ∀ j, k ≤ j → j < 5 → ∃ g cap, W.cell? ⟨d, chT j, none⟩ = some (.slice (some ⟨g, 0, none⟩) (rpT j).size cap) ∧ g < W.heap.size ∧ w.heap.size ≤ g ∧ g ≠ d ∧ g ≠ e ∧ ∀ i (hi : i < (rpT j).data.size), W.cell? ⟨g, i, none⟩ = some (.int .u8 ((rpT j).data[i].toNat : Int))
  fd : ∀ i, W.frozen? ⟨d, i, none⟩ = false
  fe : ∀ i, W.frozen? ⟨e, i, none⟩ = false
def stW (W : World) (d e k cap : Nat) (A B : Obj) (fr : Nat × Nat) : World :=
  ((((((W.setCell ⟨e, 4 - k, none⟩ (.string ⟨#[UInt8.ofNat (chT k)]⟩)).setCell ⟨d, 256, none⟩ (.slice (some ⟨e, 0, none⟩) (5 - k) 5)).setCell ⟨d, chT k, none⟩ (.slice (some ⟨W.heap.size + 1 + 1, 0, none⟩) (rpT k).size cap)).alloc A).alloc B).alloc (.cells (bytesRow (rpT k) cap) 5 fr)).drew
theorem chT_ne {i j : Nat} (hi : i < 5) (hj : j < 5) (h : i ≠ j) : chT i ≠ chT j := by
  have : ∀ i, i < 5 → ∀ j, j < 5 → i ≠ j → chT i ≠ chT j := by decide
  exact this i hi j hj h
theorem chT_lt {i : Nat} (hi : i < 5) : chT i < 256 := by
  have : ∀ i, i < 5 → chT i < 256 := by decide
  exact this i hi
theorem TabI.step {w : World} {d e k : Nat} {W : World} (h : TabI w d e (k + 1) W) (hk : k < 5) (cap : Nat) (A B : Obj) (fr : Nat × Nat) : TabI w d e k (stW W d e k cap A B fr) := by
  have es := h.es; have ds := h.ds; have we := h.we; have wd := h.wd; have de := h.de; have hb := h.bel
  have sz : (stW W d e k cap A B fr).heap.size = W.heap.size + 1 + 1 + 1 := by simp [stW]
  have old : ∀ a : Addr, a.block < W.heap.size → (stW W d e k cap A B fr).cell? a = (((W.setCell ⟨e, 4 - k, none⟩ (.string ⟨#[UInt8.ofNat (chT k)]⟩)).setCell ⟨d, 256, none⟩ (.slice (some ⟨e, 0, none⟩) (5 - k) 5)).setCell ⟨d, chT k, none⟩ (.slice (some ⟨W.heap.size + 1 + 1, 0, none⟩) (rpT k).size cap)).cell? a := fun a ha => by
    simp only [stW]
    rw [World.cell?_drew, World.cell?_alloc_lt _ _ _ (by simp only [World.size_alloc, World.size_setCell]; omega), World.cell?_alloc_lt _ _ _ (by simp only [World.size_alloc, World.size_setCell]; omega), World.cell?_alloc_lt _ _ _ (by simp only [World.size_alloc, World.size_setCell]; omega)]
  have oth : ∀ a : Addr, a.block < W.heap.size → a ≠ ⟨e, 4 - k, none⟩ → a ≠ ⟨d, 256, none⟩ → a ≠ ⟨d, chT k, none⟩ → (stW W d e k cap A B fr).cell? a = W.cell? a := fun a ha h1 h2 h3 => by
    rw [old a ha, World.cell?_setCell_other _ _ _ _ (Ne.symm h3), World.cell?_setCell_other _ _ _ _ (Ne.symm h2), World.cell?_setCell_other _ _ _ _ (Ne.symm h1)]
  have ck := chT_lt hk
  refine ⟨?_, we, wd, de, by omega, by omega, ?_, ?_, ?_, ?_, ?_, ?_⟩
  · simp only [stW]
    have h1 : w.heap.size ≤ (⟨e, 4 - k, none⟩ : Addr).block := we
    have h2 : w.heap.size ≤ (⟨d, 256, none⟩ : Addr).block := wd
    have h3 : w.heap.size ≤ (⟨d, chT k, none⟩ : Addr).block := wd
    have hs := hb.size
    exact Below.drew (Below.alloc (Below.alloc (Below.alloc (Below.setCell (Below.setCell (Below.setCell hb h1 _) h2 _) h3 _) (by simp only [World.size_alloc, World.size_setCell]; omega) _) (by simp only [World.size_alloc, World.size_setCell]; omega) _) (by simp only [World.size_alloc, World.size_setCell]; omega) _)
  · rw [old _ ds, World.cell?_setCell_other _ _ _ _ (by simp <;> omega)]
    exact World.cell?_setCell_same _ _ _ ((World.cell?_setCell_other _ _ _ _ (by simp <;> omega)).trans h.len)
  · intro i hi
    by_cases hik : i = 4 - k
    · subst hik
      refine ⟨⟨#[UInt8.ofNat (chT k)]⟩, ?_, fun _ => ?_⟩
      · obtain ⟨s, hs, -⟩ := h.tos (4 - k) (by omega)
        rw [old _ es, World.cell?_setCell_other _ _ _ _ (by simp <;> omega), World.cell?_setCell_other _ _ _ _ (by simp <;> omega)]
        exact World.cell?_setCell_same _ _ _ hs
      · rw [show 4 - (4 - k) = k by omega]
    · obtain ⟨s, hs, hq⟩ := h.tos i hi
      exact ⟨s, (oth _ es (by simp <;> omega) (by simp <;> omega) (by simp <;> omega)).trans hs, fun hl => hq (by omega)⟩
  · intro i hi hj
    have h1 := hj k (Nat.le_refl _) hk
    rw [oth _ ds (by simp <;> omega) (by simp <;> omega) (by simp <;> omega)]
    exact h.nil i hi fun j h1 h2 => hj j (by omega) h2
  · intro j h1 h2
    by_cases hjk : j = k
    · subst hjk
      have hs := hb.size
      refine ⟨W.heap.size + 1 + 1, cap, ?_, by omega, by omega, by omega, by omega, fun i hi => ?_⟩
      · rw [old _ ds]
        refine World.cell?_setCell_same _ _ _ (u := .slice none 0 0) ?_
        rw [World.cell?_setCell_other _ _ _ _ (by simp <;> omega), World.cell?_setCell_other _ _ _ _ (by simp <;> omega)]
        exact h.nil _ ck fun j h3 h4 => chT_ne hk h4 (by omega)
      · simp only [stW]
        rw [World.cell?_drew]
        have hz : W.heap.size + 1 + 1 = ((((W.setCell ⟨e, 4 - j, none⟩ (.string ⟨#[UInt8.ofNat (chT j)]⟩)).setCell ⟨d, 256, none⟩ (.slice (some ⟨e, 0, none⟩) (5 - j) 5)).setCell ⟨d, chT j, none⟩ (.slice (some ⟨W.heap.size + 1 + 1, 0, none⟩) (rpT j).size cap)).alloc A |>.alloc B).heap.size := by simp
        conv => lhs; arg 2; rw [hz]
        rw [World.cell?_alloc_mark]
        exact bytesRow_at _ _ _ hi
    · obtain ⟨g, cap', hg, g1, g0, g2, g3, g4⟩ := h.rep j (by omega) h2
      have := chT_ne h2 hk hjk
      have := chT_lt h2
      exact ⟨g, cap', (oth _ ds (by simp <;> omega) (by simp <;> omega) (by simp <;> omega)).trans hg, by omega, g0, g2, g3, fun i hi => (oth _ g1 (by simp <;> omega) (by simp <;> omega) (by simp <;> omega)).trans (g4 i hi)⟩
  · intro i
    simp only [stW]
    rw [World.frozen?_drew, World.frozen?_alloc_old _ _ _ (by simp <;> omega), World.frozen?_alloc_old _ _ _ (by simp <;> omega), World.frozen?_alloc_old _ _ _ (by simp <;> omega), World.frozen?_setCell, World.frozen?_setCell, World.frozen?_setCell]
    exact h.fd i
  · intro i
    simp only [stW]
    rw [World.frozen?_drew, World.frozen?_alloc_old _ _ _ (by simp <;> omega), World.frozen?_alloc_old _ _ _ (by simp <;> omega), World.frozen?_alloc_old _ _ _ (by simp <;> omega), World.frozen?_setCell, World.frozen?_setCell, World.frozen?_setCell]
    exact h.fe i
def w0W (w : World) (zc : Array Value) (T : TypeId) : World := (w.alloc (.cells #[.string ⟨#[]⟩, .string ⟨#[]⟩, .string ⟨#[]⟩, .string ⟨#[]⟩, .string ⟨#[]⟩] 9)).alloc (.cells (zc.toList.set 256 (.slice (some ⟨w.heap.size, 0, none⟩) 0 5)).toArray T)
theorem TabI.start (w : World) (zc : Array Value) (T : TypeId) (hl : zc.toList.length = 257) (hz : zc.toList.take 256 = List.replicate 256 (.slice none 0 0)) : TabI w (w.heap.size + 1) w.heap.size 5 (w0W w zc T) := by
  have at1 : ∀ i, (w0W w zc T).cell? ⟨w.heap.size + 1, i, none⟩ = (zc.toList.set 256 (.slice (some ⟨w.heap.size, 0, none⟩) 0 5))[i]? := fun i => by
    simp only [w0W]
    rw [World.cell?_alloc_at _ _ _ _ (by simp), List.getElem?_toArray]
  refine ⟨?_, by omega, by omega, by omega, by simp [w0W] <;> omega, by simp [w0W] <;> omega, ?_, ?_, ?_, fun j h1 h2 => by omega, fun i => ?_, fun i => ?_⟩
  · simp only [w0W]
    exact Below.alloc (Below.alloc (Below.refl _ _) (Nat.le_refl _) _) (by simp) _
  · rw [at1, List.getElem?_set_self (by omega)]
  · intro i hi
    refine ⟨⟨#[]⟩, ?_, fun h => by omega⟩
    simp only [w0W]
    rw [World.cell?_alloc_lt _ _ _ (by simp), World.cell?_alloc_at _ _ _ _ (by simp)]
    have hh : i = 0 ∨ i = 1 ∨ i = 2 ∨ i = 3 ∨ i = 4 := by omega
    rcases hh with rfl | rfl | rfl | rfl | rfl <;> rfl
  · intro i hi _
    rw [at1, List.getElem?_set_ne (by omega)]
    have : (zc.toList.take 256)[i]? = some (.slice none 0 0) := by rw [hz, List.getElem?_replicate, if_pos hi]
    rwa [List.getElem?_take_of_lt hi] at this
  · simp only [w0W]; rw [World.frozen?_alloc_at _ _ _ _ (by simp)]
  · simp only [w0W]; rw [World.frozen?_alloc_old _ _ _ (by simp), World.frozen?_alloc_at _ _ _ _ (by simp)]
structure TabF (B d e : Nat) (W : World) : Prop where
  bd : B ≤ d
  be : B ≤ e
  ld : d < W.heap.size
  le : e < W.heap.size
  len : W.cell? ⟨d, 256, none⟩ = some (.slice (some ⟨e, 0, none⟩) 5 5)
  tos : ∀ i, i < 5 → W.cell? ⟨e, i, none⟩ = some (.string ⟨#[UInt8.ofNat (chT (4 - i))]⟩)
  nil : ∀ i, i < 256 → (∀ j, j < 5 → i ≠ chT j) → W.cell? ⟨d, i, none⟩ = some (.slice none 0 0)
  rep : ∀ j, j < 5 → ∃ g cap, W.cell? ⟨d, chT j, none⟩ = some (.slice (some ⟨g, 0, none⟩) (rpT j).size cap) ∧ B ≤ g ∧ g < W.heap.size ∧ ∀ i (hi : i < (rpT j).data.size), W.cell? ⟨g, i, none⟩ = some (.int .u8 ((rpT j).data[i].toNat : Int))
theorem TabI.fin {w : World} {d e : Nat} {W : World} (h : TabI w d e 0 W) : TabF w.heap.size d e W := by
  refine ⟨h.wd, h.we, h.ds, h.es, h.len, fun i hi => ?_, fun i hi hj => h.nil i hi fun j _ h2 => hj j h2, fun j hj => ?_⟩
  · obtain ⟨s, hs, hq⟩ := h.tos i hi
    rw [hs, hq (by omega)]
  · obtain ⟨g, cap, hg, g1, g0, -, -, g4⟩ := h.rep j (Nat.zero_le _) hj
    exact ⟨g, cap, hg, g0, g1, g4⟩
theorem TabF.move {B d e : Nat} {W W' : World} (h : TabF B d e W) (hs : W.heap.size ≤ W'.heap.size) (hc : ∀ a : Addr, B ≤ a.block → a.block < W.heap.size → W'.cell? a = W.cell? a) : TabF B d e W' := by
  have h1 := h.ld; have h2 := h.le; have h3 := h.bd; have h4 := h.be
  refine ⟨h.bd, h.be, by omega, by omega, (hc _ h3 h1).trans h.len, fun i hi => (hc _ h4 h2).trans (h.tos i hi), fun i hi hj => (hc _ h3 h1).trans (h.nil i hi hj), fun j hj => ?_⟩
  obtain ⟨g, cap, hg, g0, g1, g4⟩ := h.rep j hj
  exact ⟨g, cap, (hc _ h3 h1).trans hg, g0, by omega, fun i hi => (hc _ g0 g1).trans (g4 i hi)⟩
end Go.Proofs.YtchpfeblinnoiaaGreatDoor

namespace Go.Proofs.YtchpfeblinnoiaaGreatDoor
open Go Go.RowKit Go.Proofs
@[local go_sem] theorem ch38 (h : 0 < (⟨#[38]⟩ : ByteArray).size) : ((⟨#[38]⟩ : ByteArray)[0]'h).toNat = 38 := rfl
@[local go_sem] theorem ch60 (h : 0 < (⟨#[60]⟩ : ByteArray).size) : ((⟨#[60]⟩ : ByteArray)[0]'h).toNat = 60 := rfl
@[local go_sem] theorem ch62 (h : 0 < (⟨#[62]⟩ : ByteArray).size) : ((⟨#[62]⟩ : ByteArray)[0]'h).toNat = 62 := rfl
@[local go_sem] theorem ch34 (h : 0 < (⟨#[34]⟩ : ByteArray).size) : ((⟨#[34]⟩ : ByteArray)[0]'h).toNat = 34 := rfl
@[local go_sem] theorem ch39 (h : 0 < (⟨#[39]⟩ : ByteArray).size) : ((⟨#[39]⟩ : ByteArray)[0]'h).toNat = 39 := rfl
set_option maxRecDepth 100000 in
set_option maxHeartbeats 1600000 in
theorem build_calls (b c cap : Nat) (w : World) (h : RepB b c cap w) : Calls Tryz.prog 87 #[.pointer (some ⟨b, 0, none⟩)] w fun e w' => ∃ d E, e = .returned (.iface 170 (.pointer (some ⟨d, 0, none⟩))) ∧ TabI w d E 0 w' := by
  have t9 := Tryz.underlying9
  have h4 := h.c4
  have s0 := h.s 0 (by omega); have s1 := h.s 1 (by omega); have s2 := h.s 2 (by omega); have s3 := h.s 3 (by omega); have s4 := h.s 4 (by omega)
  have s5 := h.s 5 (by omega); have s6 := h.s 6 (by omega); have s7 := h.s 7 (by omega); have s8 := h.s 8 (by omega); have s9 := h.s 9 (by omega)
  simp only [repT, List.getD_cons_zero, List.getD_cons_succ] at s0 s1 s2 s3 s4 s5 s6 s7 s8 s9
  have mk : ∀ w : World, (Instr.makeSlice 123 (.int .i64 0) (.int .i64 5)).run Tryz.prog w = .ok (.slice (some ⟨w.heap.size, 0, none⟩) 0 5) (w.alloc (.cells #[.string ⟨#[]⟩, .string ⟨#[]⟩, .string ⟨#[]⟩, .string ⟨#[]⟩, .string ⟨#[]⟩] 9)) := fun w => by kernel_rfl
  have hst : ∀ (W : World) (d : Nat) (v : Value), d = W.heap.size → v.oneCell' = true → (storeCells ⟨d, 0, none⟩ (Tryz.zeroCells169.toList.set 256 v)).run Tryz.prog (W.alloc (.cells Tryz.zeroCells169 169)) = .ok () (W.alloc (.cells (Tryz.zeroCells169.toList.set 256 v).toArray 169)) := fun W d v hd hv => by
    subst hd
    have := run_storeCells_new (P := Tryz.prog) W 169 Tryz.zeroCells169 (Tryz.zeroCells169.toList.set 256 v).toArray (by rw [show (Tryz.zeroCells169.toList.set 256 v).toArray.size = Tryz.zeroCells169.size from by simp]; kernel_rfl) (by simp) (by
      rw [List.all_toArray, List.all_eq_true]
      intro x hx
      rcases List.mem_or_eq_of_mem_set hx with hx | rfl
      · have hz : Tryz.zeroCells169.toList.all (·.oneCell') = true := by kernel_rfl
        exact List.all_eq_true.1 hz x hx
      · exact hv)
    simpa using this
  have hsb : ∀ (W : World) (s : ByteArray), (convert 9 71 (.string s)).run Tryz.prog W = _ := fun W s => run_bytes_of_string W 9 71 5 s (by kernel_rfl) (by kernel_rfl) (by kernel_rfl)
  have hcv : ∀ (W : World) (n d : Nat), n < 256 → d = W.heap.size → (convert 71 9 (.slice (some ⟨d, 0, none⟩) 1 1)).run Tryz.prog (W.alloc (.cells #[.int .u8 n] 5)) = .ok (.string ⟨#[UInt8.ofNat n]⟩) (W.alloc (.cells #[.int .u8 n] 5)) := fun W n d hn hd => by
    subst hd
    have := run_convert_bytes_back (P := Tryz.prog) (W.alloc (.cells #[.int .u8 n] 5)) 71 9 5 ⟨W.heap.size, 0, none⟩ 1 [UInt8.ofNat n] (by kernel_rfl) (by kernel_rfl) (by kernel_rfl) (fun j hj => by
      have : j = 0 := by simpa using hj
      subst this
      show (W.alloc (.cells #[.int .u8 n] 5)).cell? ⟨W.heap.size, 0, none⟩ = _
      rw [World.cell?_alloc_new]
      simp; omega)
    simpa using this
  have hcv39 : ∀ (W : World) (d : Nat), d = W.heap.size → (convert 71 9 (.slice (some ⟨d, 0, none⟩) 1 1)).run Tryz.prog (W.alloc (.cells #[.int .u8 39] 5)) = .ok (.string ⟨#[39]⟩) (W.alloc (.cells #[.int .u8 39] 5)) := fun W d hd => hcv W 39 d (by omega) hd
  have hcv62 : ∀ (W : World) (d : Nat), d = W.heap.size → (convert 71 9 (.slice (some ⟨d, 0, none⟩) 1 1)).run Tryz.prog (W.alloc (.cells #[.int .u8 62] 5)) = .ok (.string ⟨#[62]⟩) (W.alloc (.cells #[.int .u8 62] 5)) := fun W d hd => hcv W 62 d (by omega) hd
  have hcv60 : ∀ (W : World) (d : Nat), d = W.heap.size → (convert 71 9 (.slice (some ⟨d, 0, none⟩) 1 1)).run Tryz.prog (W.alloc (.cells #[.int .u8 60] 5)) = .ok (.string ⟨#[60]⟩) (W.alloc (.cells #[.int .u8 60] 5)) := fun W d hd => hcv W 60 d (by omega) hd
  have hcv38 : ∀ (W : World) (d : Nat), d = W.heap.size → (convert 71 9 (.slice (some ⟨d, 0, none⟩) 1 1)).run Tryz.prog (W.alloc (.cells #[.int .u8 38] 5)) = .ok (.string ⟨#[38]⟩) (W.alloc (.cells #[.int .u8 38] 5)) := fun W d hd => hcv W 38 d (by omega) hd
  have hcv34 : ∀ (W : World) (d : Nat), d = W.heap.size → (convert 71 9 (.slice (some ⟨d, 0, none⟩) 1 1)).run Tryz.prog (W.alloc (.cells #[.int .u8 34] 5)) = .ok (.string ⟨#[34]⟩) (W.alloc (.cells #[.int .u8 34] 5)) := fun W d hd => hcv W 34 d (by omega) hd
  have hnil : ∀ w : World, (Op.equal 71 (.slice none 0 0) (.slice none 0 0)).run Tryz.prog w = .ok true w := fun w => by kernel_rfl
  have hnil' : ∀ w : World, (Go.binOp .eql 71 (.slice none 0 0) (.slice none 0 0)).run Tryz.prog w = .ok (.bool true) w := fun w => by kernel_rfl
  go_enter Tryz.func87, Tryz.ntmps87
  go_wp2
  refine wp_loop_rounds 6 ?_
  rw [rounds_succ]
  go_wp2
  rw [rounds_succ]
  go_wp2
  rw [rounds_succ]
  go_wp2
  rw [rounds_succ]
  go_wp2
  rw [rounds_succ]
  go_wp2
  rw [rounds_succ]
  go_wp2
  rw [hst _ _ _ (by simp) rfl]
  simp only [Result.andThen]
  rw [Oper.upon_skip]
  have hI : TabI w (w.heap.size + 1) w.heap.size 5 (w0W w Tryz.zeroCells169 169) := TabI.start w _ _ (by kernel_rfl) (by kernel_rfl)
  simp only [w0W] at hI
  generalize hW : World.alloc (World.alloc w _) _ = W at hI ⊢
  generalize hD : w.heap.size + 1 = D at *
  generalize hE : w.heap.size = E at *
  go_wp2
  go_loopg [12] 5 (fun k i wr => i = .int .i64 (2 * k - 2) ∧ k ≤ 5 ∧ TabI w D E k wr)
  case atStart => exact ⟨rfl, Nat.le_refl _, hI⟩
  case round =>
    obtain ⟨rfl, hk, hJ⟩ := hrel
    have hc0 : c < E := by rw [← hE]; exact World.block_lt_of_cell? w ⟨c, 0, none⟩ s0
    have q0 := (hJ.bel.cell (p := ⟨c, 0, none⟩) (by rw [hE]; exact hc0)).trans s0
    have q1 := (hJ.bel.cell (p := ⟨c, 1, none⟩) (by rw [hE]; exact hc0)).trans s1
    have q2 := (hJ.bel.cell (p := ⟨c, 2, none⟩) (by rw [hE]; exact hc0)).trans s2
    have q3 := (hJ.bel.cell (p := ⟨c, 3, none⟩) (by rw [hE]; exact hc0)).trans s3
    have q4 := (hJ.bel.cell (p := ⟨c, 4, none⟩) (by rw [hE]; exact hc0)).trans s4
    have q5 := (hJ.bel.cell (p := ⟨c, 5, none⟩) (by rw [hE]; exact hc0)).trans s5
    have q6 := (hJ.bel.cell (p := ⟨c, 6, none⟩) (by rw [hE]; exact hc0)).trans s6
    have q7 := (hJ.bel.cell (p := ⟨c, 7, none⟩) (by rw [hE]; exact hc0)).trans s7
    have q8 := (hJ.bel.cell (p := ⟨c, 8, none⟩) (by rw [hE]; exact hc0)).trans s8
    have q9 := (hJ.bel.cell (p := ⟨c, 9, none⟩) (by rw [hE]; exact hc0)).trans s9
    clear s0 s1 s2 s3 s4 s5 s6 s7 s8 s9 h4 hW hI hst mk
    have es := hJ.es; have ds := hJ.ds; have de := hJ.de
    have esk : ∀ k, E < wr.heap.size + k := fun k => by omega
    have dsk : ∀ k, D < wr.heap.size + k := fun k => by omega
    have hkk : gk = 0 ∨ gk = 1 ∨ gk = 2 ∨ gk = 3 ∨ gk = 4 ∨ gk = 5 := by omega
    rcases hkk with rfl | rfl | rfl | rfl | rfl | rfl
    case inr.inr.inr.inr.inr =>
      have l1 := hJ.len
      have l2 := hJ.nil 39 (by omega) (fun j h1 h2 => (by decide : ∀ j, j < 5 → 5 ≤ j → 39 ≠ chT j) j h2 h1)
      obtain ⟨sx, l3, -⟩ := hJ.tos 0 (by omega)
      have l4 := hJ.fd 39
      have l5 := hJ.fd 256
      have l6 := hJ.fe 0
      simp only [Nat.sub_self, Nat.reduceSub] at l1
      go_wp2
      go_roundg 4
      case measure => omega
      case rel => exact ⟨by go_num, by omega, TabI.step hJ (by omega) _ _ _ _⟩
    case inr.inr.inr.inr.inl =>
      have l1 := hJ.len
      have l2 := hJ.nil 34 (by omega) (fun j h1 h2 => (by decide : ∀ j, j < 5 → 4 ≤ j → 34 ≠ chT j) j h2 h1)
      obtain ⟨sx, l3, -⟩ := hJ.tos 1 (by omega)
      have l4 := hJ.fd 34
      have l5 := hJ.fd 256
      have l6 := hJ.fe 1
      simp only [Nat.sub_self, Nat.reduceSub] at l1
      go_wp2
      go_roundg 3
      case measure => omega
      case rel => exact ⟨by go_num, by omega, TabI.step hJ (by omega) _ _ _ _⟩
    case inr.inr.inr.inl =>
      have l1 := hJ.len
      have l2 := hJ.nil 62 (by omega) (fun j h1 h2 => (by decide : ∀ j, j < 5 → 3 ≤ j → 62 ≠ chT j) j h2 h1)
      obtain ⟨sx, l3, -⟩ := hJ.tos 2 (by omega)
      have l4 := hJ.fd 62
      have l5 := hJ.fd 256
      have l6 := hJ.fe 2
      simp only [Nat.sub_self, Nat.reduceSub] at l1
      go_wp2
      go_roundg 2
      case measure => omega
      case rel => exact ⟨by go_num, by omega, TabI.step hJ (by omega) _ _ _ _⟩
    case inr.inr.inl =>
      have l1 := hJ.len
      have l2 := hJ.nil 60 (by omega) (fun j h1 h2 => (by decide : ∀ j, j < 5 → 2 ≤ j → 60 ≠ chT j) j h2 h1)
      obtain ⟨sx, l3, -⟩ := hJ.tos 3 (by omega)
      have l4 := hJ.fd 60
      have l5 := hJ.fd 256
      have l6 := hJ.fe 3
      simp only [Nat.sub_self, Nat.reduceSub] at l1
      go_wp2
      go_roundg 1
      case measure => omega
      case rel => exact ⟨by go_num, by omega, TabI.step hJ (by omega) _ _ _ _⟩
    case inr.inl =>
      have l1 := hJ.len
      have l2 := hJ.nil 38 (by omega) (fun j h1 h2 => (by decide : ∀ j, j < 5 → 1 ≤ j → 38 ≠ chT j) j h2 h1)
      obtain ⟨sx, l3, -⟩ := hJ.tos 4 (by omega)
      have l4 := hJ.fd 38
      have l5 := hJ.fd 256
      have l6 := hJ.fe 4
      simp only [Nat.sub_self, Nat.reduceSub] at l1
      go_wp2
      go_roundg 0
      case measure => omega
      case rel => exact ⟨by go_num, by omega, TabI.step hJ (by omega) _ _ _ _⟩
    case inl =>
      have l1 := hJ.len
      go_wp2
      go_ret
      exact ⟨_, _, rfl, hJ⟩
end Go.Proofs.YtchpfeblinnoiaaGreatDoor

namespace Go.Proofs.YtchpfeblinnoiaaGreatDoor
open Go Go.RowKit Go.Proofs
set_option maxRecDepth 100000 in
set_option maxHeartbeats 1600000 in
theorem buildOnce_calls (b c cap : Nat) (w : World) (h : RepO b c cap w) (hbc : b ≠ c) : Calls Tryz.prog 70 #[.pointer (some ⟨b, 0, none⟩)] (w.setCell ⟨b, 1, none⟩ (.int .i32 1)) fun e w' => e = .returned (.tuple #[]) ∧ HeldW b w' ∧ ∃ d E, TabF w.heap.size d E w' ∧ w'.cell? ⟨b, 3, none⟩ = some (.iface 170 (.pointer (some ⟨d, 0, none⟩))) ∧ (∀ B, B ≤ b → B ≤ c → Below B w w') := by
  have hB : RepB b c cap (w.setCell ⟨b, 1, none⟩ (.int .i32 1)) := ⟨(World.cell?_setCell_other _ _ _ _ (by simp)).trans h.c4, fun i hi => (World.cell?_setCell_other _ _ _ _ (by simp <;> omega)).trans (h.s i hi)⟩
  have hb : b < w.heap.size := World.block_lt_of_cell? w ⟨b, 0, none⟩ h.c0
  have hc : c < w.heap.size := World.block_lt_of_cell? w ⟨c, 0, none⟩ (h.s 0 (by omega))
  have hsz : (w.setCell ⟨b, 1, none⟩ (.int .i32 1)).heap.size = w.heap.size := World.size_setCell ..
  go_enter Tryz.func70, Tryz.ntmps70
  go_wp2_with (go_at_call 87; refine (build_calls b c cap _ hB).mono ?_; rintro e w' ⟨d, E, rfl, hT⟩; have q3 : w'.cell? ⟨b, 3, none⟩ = some .nilIface := (hT.bel.cell (p := ⟨b, 3, none⟩) (by rw [hsz]; exact hb)).trans ((World.cell?_setCell_other _ _ _ _ (by simp)).trans h.c3); have q4 : w'.cell? ⟨b, 4, none⟩ = some (.slice (some ⟨c, 0, none⟩) 10 cap) := (hT.bel.cell (p := ⟨b, 4, none⟩) (by rw [hsz]; exact hb)).trans ((World.cell?_setCell_other _ _ _ _ (by simp)).trans h.c4); have z3 : w'.frozen? ⟨b, 3, none⟩ = false := (hT.bel.frozen (p := ⟨b, 3, none⟩) (by rw [hsz]; exact hb)).trans ((World.frozen?_setCell ..).trans h.f3); have z4 : w'.frozen? ⟨b, 4, none⟩ = false := (hT.bel.frozen (p := ⟨b, 4, none⟩) (by rw [hsz]; exact hb)).trans ((World.frozen?_setCell ..).trans h.f4))
  go_end0
  have hF := hT.fin
  rw [hsz] at hF
  have oth : ∀ (x : Value) (y : Value) (a : Addr), a ≠ ⟨b, 3, none⟩ → a ≠ ⟨b, 4, none⟩ → ((w'.setCell ⟨b, 3, none⟩ x).setCell ⟨b, 4, none⟩ y).cell? a = w'.cell? a := fun x y a h1 h2 => by
    rw [World.cell?_setCell_other _ _ _ _ (Ne.symm h2), World.cell?_setCell_other _ _ _ _ (Ne.symm h1)]
  have old : ∀ a : Addr, a.block < w.heap.size → w'.cell? a = (w.setCell ⟨b, 1, none⟩ (.int .i32 1)).cell? a := fun a ha => hT.bel.cell (by rw [hsz]; exact ha)
  have oldf : ∀ a : Addr, a.block < w.heap.size → w'.frozen? a = w.frozen? a := fun a ha => (hT.bel.frozen (by rw [hsz]; exact ha)).trans (World.frozen?_setCell ..)
  refine ⟨rfl, ⟨?_, ?_, ?_, ?_⟩, d, E, ?_, ?_, fun B h1 h2 => ?_⟩
  · rw [oth _ _ _ (by simp) (by simp), old _ hb, World.cell?_setCell_other _ _ _ _ (by simp)]; exact h.c0
  · rw [oth _ _ _ (by simp) (by simp), old _ hb]; exact World.cell?_setCell_same _ _ _ h.c1
  · rw [World.frozen?_setCell, World.frozen?_setCell, oldf _ hb]; exact h.f0
  · rw [World.frozen?_setCell, World.frozen?_setCell, oldf _ hb]; exact h.f1
  · refine hF.move (by simp) fun a h1 h2 => ?_
    refine oth _ _ _ ?_ ?_ <;> (intro e; rw [e] at h1; simp only at h1; omega)
  · rw [World.cell?_setCell_other _ _ _ _ (by simp)]; exact World.cell?_setCell_same _ _ _ q3
  · have b1 : Below B w (w.setCell ⟨b, 1, none⟩ (.int .i32 1)) := Below.setCell (Below.refl _ _) h1 _
    have b2 : Below B (w.setCell ⟨b, 1, none⟩ (.int .i32 1)) w' := hT.bel.mono (by rw [hsz]; omega)
    exact Below.setCell (Below.setCell (b1.trans b2) h1 _) h1 _
end Go.Proofs.YtchpfeblinnoiaaGreatDoor

namespace Go.Proofs.YtchpfeblinnoiaaGreatDoor
open Go Go.RowKit Go.Proofs
@[local go_sem] theorem x0 (h : 0 < (⟨#[120, 60]⟩ : ByteArray).size) : ((⟨#[120, 60]⟩ : ByteArray)[0]'h).toNat = 120 := rfl
@[local go_sem] theorem x1 (h : 1 < (⟨#[120, 60]⟩ : ByteArray).size) : ((⟨#[120, 60]⟩ : ByteArray)[1]'h).toNat = 60 := rfl
set_option maxRecDepth 100000 in
set_option maxHeartbeats 1600000 in
theorem rpl_calls (B d e : Nat) (w : World) (h : TabF B d e w) : Calls Tryz.prog 177 #[.pointer (some ⟨d, 0, none⟩), .string ⟨#[120, 60]⟩] w fun en w' => en = .returned (.string ⟨#[120, 38, 108, 116, 59]⟩) ∧ Below w.heap.size w w' := by
  have l1 := h.len
  have l2 := h.nil 120 (by omega) (by decide)
  obtain ⟨g, cap, l3, g1, g2, g3⟩ := h.rep 1 (by omega)
  simp only [show chT 1 = 60 from rfl, show (rpT 1).size = 4 from rfl] at l3
  have r0 : w.cell? ⟨g, 0, none⟩ = some (.int .u8 38) := g3 0 (by decide)
  have r1 : w.cell? ⟨g, 1, none⟩ = some (.int .u8 108) := g3 1 (by decide)
  have r2 : w.cell? ⟨g, 2, none⟩ = some (.int .u8 116) := g3 2 (by decide)
  have r3 : w.cell? ⟨g, 3, none⟩ = some (.int .u8 59) := g3 3 (by decide)
  clear g3
  have dl := h.ld; have gl := g2
  have dk : ∀ k, d < w.heap.size + k := fun k => by omega
  have gk : ∀ k, g < w.heap.size + k := fun k => by omega
  have dn : w.heap.size ≠ d := by omega
  have dn' : d ≠ w.heap.size := by omega
  have gn : w.heap.size ≠ g := by omega
  have gn' : g ≠ w.heap.size := by omega
  have hnil : ∀ w : World, (Go.binOp .neq 71 (.slice none 0 0) (.slice none 0 0)).run Tryz.prog w = .ok (.bool false) w := fun w => by kernel_rfl
  have hnil' : ∀ (a : Addr) (n c : Nat) (w : World), (Go.binOp .neq 71 (.slice (some a) n c) (.slice none 0 0)).run Tryz.prog w = .ok (.bool true) w := fun a n c w => by kernel_rfl
  have hnot : ∀ (x : Bool) (w : World), (Op.unary .not (.bool x)).run Tryz.prog w = .ok (.bool (!x)) w := fun _ _ => rfl
  have mk : ∀ w : World, (Instr.makeSlice 71 (.int .i64 5) (.int .i64 5)).run Tryz.prog w = .ok (.slice (some ⟨w.heap.size, 0, none⟩) 5 5) (w.alloc (.cells #[.int .u8 0, .int .u8 0, .int .u8 0, .int .u8 0, .int .u8 0] 5)) := fun w => by kernel_rfl
  go_enter Tryz.func177, Tryz.ntmps177
  go_wp2
  go_rounds 3
  go_wp2
  go_rounds 3
  generalize hn : w.heap.size = n at *
  generalize hW : World.alloc w _ = W1
  have wn : W1.heap.size = n + 1 := by rw [← hW]; simp [hn]
  have z0 : W1.cell? ⟨n, 0, none⟩ = some (.int .u8 120) := by rw [← hW, World.cell?_alloc_at _ _ _ _ hn.symm]; rfl
  have z1 : W1.cell? ⟨n, 1, none⟩ = some (.int .u8 0) := by rw [← hW, World.cell?_alloc_at _ _ _ _ hn.symm]; rfl
  have z2 : W1.cell? ⟨n, 2, none⟩ = some (.int .u8 0) := by rw [← hW, World.cell?_alloc_at _ _ _ _ hn.symm]; rfl
  have z3 : W1.cell? ⟨n, 3, none⟩ = some (.int .u8 0) := by rw [← hW, World.cell?_alloc_at _ _ _ _ hn.symm]; rfl
  have z4 : W1.cell? ⟨n, 4, none⟩ = some (.int .u8 0) := by rw [← hW, World.cell?_alloc_at _ _ _ _ hn.symm]; rfl
  have zf : ∀ i, W1.frozen? ⟨n, i, none⟩ = false := fun i => by rw [← hW, World.frozen?_alloc_at _ _ _ _ hn.symm]
  have m3 : W1.cell? ⟨d, 60, none⟩ = some (.slice (some ⟨g, 0, none⟩) 4 cap) := by rw [← hW, World.cell?_alloc_past _ _ _ (by omega)]; exact l3
  have s0 : W1.cell? ⟨g, 0, none⟩ = some (.int .u8 38) := by rw [← hW, World.cell?_alloc_past _ _ _ (by omega)]; exact r0
  have s1 : W1.cell? ⟨g, 1, none⟩ = some (.int .u8 108) := by rw [← hW, World.cell?_alloc_past _ _ _ (by omega)]; exact r1
  have s2 : W1.cell? ⟨g, 2, none⟩ = some (.int .u8 116) := by rw [← hW, World.cell?_alloc_past _ _ _ (by omega)]; exact r2
  have s3 : W1.cell? ⟨g, 3, none⟩ = some (.int .u8 59) := by rw [← hW, World.cell?_alloc_past _ _ _ (by omega)]; exact r3
  have cp : ∀ W : World, W.heap = W1.heap → (Builtin.copy_ #[71, 71] 3 #[.slice (some ⟨n, 1, none⟩) 4 4, .slice (some ⟨g, 0, none⟩) 4 cap]).run Tryz.prog W = .ok (.int .i64 4) (W.setCells n 1 [.int .u8 38, .int .u8 108, .int .u8 116, .int .u8 59]) := fun W he => by
    have ce : ∀ a, W.cell? a = W1.cell? a := fun a => by simp [World.cell?, he]
    have fe : ∀ a, W.frozen? a = W1.frozen? a := fun a => by simp [World.frozen?, he]
    refine run_copy_cells (P := Tryz.prog) W 71 71 3 5 n 1 4 4 ⟨g, 0, none⟩ 4 cap [.int .u8 38, .int .u8 108, .int .u8 116, .int .u8 59] (by kernel_rfl) (by kernel_rfl) rfl ?_ ?_ ?_ (by decide)
    · intro j v hj
      rw [ce]
      have hh : j = 0 ∨ j = 1 ∨ j = 2 ∨ j = 3 ∨ 4 ≤ j := by omega
      rcases hh with rfl | rfl | rfl | rfl | hh
      · simp at hj; subst hj; exact s0
      · simp at hj; subst hj; exact s1
      · simp at hj; subst hj; exact s2
      · simp at hj; subst hj; exact s3
      · rw [List.getElem?_eq_none (by simpa using hh)] at hj; exact absurd hj (by simp)
    · intro j hj
      rw [ce]
      have hh : j = 0 ∨ j = 1 ∨ j = 2 ∨ j = 3 := by simp at hj; omega
      rcases hh with rfl | rfl | rfl | rfl
      · simp [z1]
      · simp [z2]
      · simp [z3]
      · simp [z4]
    · intro j hj
      rw [fe]; exact zf _
  have cp1 := cp W1 rfl
  have cp2 := cp W1.drew rfl
  clear cp
  go_region
  generalize hV : World.setCells _ _ _ _ = W2
  have hz : ∀ j, j < ([.int .u8 38, .int .u8 108, .int .u8 116, .int .u8 59] : List Value).length → (W1.drew.cell? ⟨n, 1 + j, none⟩).isSome = true := fun j hj => by
    rw [World.cell?_drew]
    have hh : j = 0 ∨ j = 1 ∨ j = 2 ∨ j = 3 := by simp at hj; omega
    rcases hh with rfl | rfl | rfl | rfl
    · simp [z1]
    · simp [z2]
    · simp [z3]
    · simp [z4]
  have hin := World.cell?_setCells_in n [.int .u8 38, .int .u8 108, .int .u8 116, .int .u8 59] 1 W1.drew hz
  have v0 : W2.cell? ⟨n, 0, none⟩ = some (.int .u8 120) := by rw [← hV, World.cell?_setCells_out _ _ _ _ _ (fun _ _ => by simp)]; exact z0
  rw [hV] at hin
  have v1 : W2.cell? ⟨n, 1, none⟩ = some (.int .u8 38) := hin 0 (by simp)
  have v2 : W2.cell? ⟨n, 2, none⟩ = some (.int .u8 108) := hin 1 (by simp)
  have v3 : W2.cell? ⟨n, 3, none⟩ = some (.int .u8 116) := hin 2 (by simp)
  have v4 : W2.cell? ⟨n, 4, none⟩ = some (.int .u8 59) := hin 3 (by simp)
  have vb : Below n w W2 := by
    rw [← hV]
    simp only [World.setCells]
    refine Below.setCell (Below.setCell (Below.setCell (Below.setCell (Below.drew ?_) (by simp) _) (by simp) _) (by simp) _) (by simp) _
    rw [← hW]
    exact Below.alloc (Below.refl _ _) (by omega) _
  have cb : (convert 71 9 (.slice (some ⟨n, 0, none⟩) 5 5)).run Tryz.prog W2 = .ok (.string ⟨#[120, 38, 108, 116, 59]⟩) W2 := by
    have := run_convert_bytes_back (P := Tryz.prog) W2 71 9 5 ⟨n, 0, none⟩ 5 [120, 38, 108, 116, 59] (by kernel_rfl) (by kernel_rfl) (by kernel_rfl) (fun j hj => by
      have hh : j = 0 ∨ j = 1 ∨ j = 2 ∨ j = 3 ∨ j = 4 := by simp at hj; omega
      rcases hh with rfl | rfl | rfl | rfl | rfl
      · exact v0
      · exact v1
      · exact v2
      · exact v3
      · exact v4)
    simpa using this
  clear hV hin hz cp1 cp2 s0 s1 s2 s3 m3 z0 z1 z2 z3 z4 zf
  go_wp2
  rw [rounds_succ]
  go_wp2
  go_ret
  exact ⟨rfl, by rw [hn]; exact vb⟩
end Go.Proofs.YtchpfeblinnoiaaGreatDoor

namespace Go.Proofs.YtchpfeblinnoiaaGreatDoor
open Go Go.RowKit Go.Proofs
set_option maxRecDepth 100000 in
set_option maxHeartbeats 1600000 in
theorem replace_calls (B b c cap : Nat) (w : World) (h : RepO b c cap w) (hbc : b ≠ c) (h1 : B ≤ b) (h2 : B ≤ c) : Calls Tryz.prog 53 #[.pointer (some ⟨b, 0, none⟩), .string ⟨#[120, 60]⟩] w fun en w' => en = .returned (.string ⟨#[120, 38, 108, 116, 59]⟩) ∧ Below B w w' := by
  have hb : b < w.heap.size := World.block_lt_of_cell? w ⟨b, 0, none⟩ h.c0
  have hdo := do_first b w h.c0 h.c1 h.f0 h.f1 _ (buildOnce_calls b c cap w h hbc)
  go_enter Tryz.func53, Tryz.ntmps53
  go_wp2_with (first | (go_at_call 69; go_must (refine hdo.mono ?_); rintro e w' ⟨rfl, w1, ⟨d, E, hT, q3, hB⟩, hH, rfl⟩) | (go_at_call 177; go_must (refine (rpl_calls w.heap.size d E _ (hT.move (by simp) fun a g1 g2 => ?_)).mono ?_); rotate_left; rintro e w'' ⟨rfl, hB2⟩))
  · go_ret
    refine ⟨rfl, ?_⟩
    have hs := (hB B h1 h2).size
    have e2 := (((hB B h1 h2).setCell (p := ⟨b, 0, none⟩) h1 (.int .u32 1)).setCell (p := ⟨b, 1, none⟩) h1 (.int .i32 0)).drew
    exact e2.trans (hB2.mono (by simp; omega))
  · rw [World.cell?_drew, World.cell?_setCell_other _ _ _ _ (by intro e; rw [← e] at g1; simp only at g1; omega), World.cell?_setCell_other _ _ _ _ (by intro e; rw [← e] at g1; simp only at g1; omega)]
set_option maxRecDepth 100000 in
set_option maxHeartbeats 1600000 in
theorem escape_calls (w : World) (hR : Calls Tryz.prog 51 #[.string ⟨#[120, 60]⟩] w fun en w' => en = .returned (.int .i64 0) ∧ Below w.heap.size w w') :
    Calls Tryz.prog 33 #[.string ⟨#[120, 60]⟩] w fun en w' => en = .returned (.tuple #[.string ⟨#[120, 38, 108, 116, 59]⟩, .int .i64 0]) ∧ Below w.heap.size w w' := by
  go_enter Tryz.func33, Tryz.ntmps33
  go_wp2_with (first | (go_at_call 51; go_must (refine hR.mono ?_); rintro e w1 ⟨rfl, hB1⟩) | (go_at_call 52; go_must (refine (escaper_calls w1).mono ?_); rintro e w2 ⟨rfl, ⟨cap, hO⟩, hB2, hz⟩) | (go_at_call 53; go_must (refine (replace_calls w1.heap.size _ _ cap w2 hO (by omega) (by omega) (by omega)).mono ?_); rintro e w3 ⟨rfl, hB3⟩))
  go_ret2
  exact ⟨rfl, hB1.trans ((hB2.trans hB3).mono hB1.size)⟩
end Go.Proofs.YtchpfeblinnoiaaGreatDoor
