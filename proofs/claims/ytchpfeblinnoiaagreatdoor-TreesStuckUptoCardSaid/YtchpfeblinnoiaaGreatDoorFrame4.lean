import Derived.Test.YtchpfeblinnoiaaGreatDoorFrame3
import Derived.Test.YtchpfeblinnoiaaGreatDoorLayV
import Derived.Lib.LaidU8T
set_option linter.unusedSimpArgs false
set_option linter.unusedVariables false
namespace Go.Proofs.YtchpfeblinnoiaaGreatDoor
open Go Go.AM Go.RowKit
theorem utf8_of_tabs {own : Nat → Prop} {W : World} (h : Tabs own W) : Lib.Utf8Tabs (Tryz.lays196_ren.g 3) (Tryz.lays196_ren.g 4) W := by
  obtain ⟨_, _, h1, _⟩ := h _ (List.mem_cons_self)
  obtain ⟨_, _, h2, _⟩ := h _ (List.mem_cons_of_mem _ List.mem_cons_self)
  refine ⟨fun c hc => h1 c hc, fun i hi => ⟨?_, ?_⟩⟩
  · have : W.cell? _ = some (Value.int IntKind.u8 (if 2 * i % 2 = 0 then (Lib.accLo (2 * i / 2) : Int) else (Lib.accHi (2 * i / 2) : Int))) := h2 (2 * i) (show 2 * i < 32 by omega)
    rw [show 2 * i % 2 = 0 from by omega, show 2 * i / 2 = i from by omega] at this
    exact this
  · have : W.cell? _ = some (Value.int IntKind.u8 (if (2 * i + 1) % 2 = 0 then (Lib.accLo ((2 * i + 1) / 2) : Int) else (Lib.accHi ((2 * i + 1) / 2) : Int))) := h2 (2 * i + 1) (show 2 * i + 1 < 32 by omega)
    have e1 : (2 * i + 1) % 2 = 1 := by omega
    have e2 : (2 * i + 1) / 2 = i := by omega
    rw [e1, e2] at this
    exact this
theorem tabs_of_utf8 {W : World} (h : Lib.Utf8Tabs (Tryz.lays196_ren.g 3) (Tryz.lays196_ren.g 4) W) : Tabs (fun _ => False) W := by
  intro x hx
  unfold tabL at hx
  simp only [List.mem_cons, List.not_mem_nil, or_false] at hx
  obtain ⟨h1, h2⟩ := h
  rcases hx with rfl | rfl
  · exact ⟨fun h => h, cell_lt (h1 0 (by omega)), fun j hj => h1 j hj, fun h => by cases h⟩
  · refine ⟨fun h => h, cell_lt (h2 0 (by omega)).1, fun j hj => ?_, fun h => by cases h⟩
    have hj : j < 32 := hj
    obtain ⟨a, b⟩ := h2 (j / 2) (by omega)
    show W.cell? _ = some (Value.int IntKind.u8 (if j % 2 = 0 then (Lib.accLo (j / 2) : Int) else (Lib.accHi (j / 2) : Int)))
    split
    · rw [show 2 * (j / 2) = j from by omega] at a; exact a
    · rw [show 2 * (j / 2) + 1 = j from by omega] at b; exact b
theorem tabs_laid {l : List (String × DataW Unit)} {W : World} {d1 d2 : DataW Unit} (h : laidMet Tryz.prog l W) (h1 : ("unicode/utf8.first", d1) ∈ l) (h2 : ("unicode/utf8.acceptRanges", d2) ∈ l) (e1 : d1 = Lib.firstData) (e2 : d2 = Lib.acceptData) : Tabs (fun _ => False) W :=
  tabs_of_utf8 (utf8Tabs_of_readsT (.of196 Tryz.lays196) ⟨by kernel_rfl, by kernel_rfl, by kernel_rfl, by kernel_rfl, by kernel_rfl, by kernel_rfl, by kernel_rfl⟩
    (e1 ▸ Lib.laidMet.reads h h1) (e2 ▸ Lib.laidMet.reads h h2))
end Go.Proofs.YtchpfeblinnoiaaGreatDoor
