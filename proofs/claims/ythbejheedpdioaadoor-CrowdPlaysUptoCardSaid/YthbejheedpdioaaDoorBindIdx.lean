import Derived.Shelf.Strings.FuncGrows
import Derived.Test.YthbejheedpdioaaDoorAmLib
set_option linter.unusedVariables false
namespace Go.Proofs.YthbejheedpdioaaDoor
open Go Go.Shelf Go.RowKit Go.Lib Go.Proofs
variable {P : Program} {ρ : Ren}
set_option maxHeartbeats 2000000 in
set_option maxRecDepth 1000000 in
theorem indexFunc_none (L : Lays.n315 P ρ) (g : Nat) (lb : Array Value) (eg : ∀ args w, (callFunc g args).run P w = .ok (.enter g args) w) (s : ByteArray) (w : World)
    (hp : ∀ (W : World) (pos : Nat), pos < s.size → Below w.heap.size w W → Calls P g (#[.int .i32 ((Utf8.decode s pos).1 : Int)] ++ lb) W fun e w' => e = .returned (.bool false) ∧ Below W.heap.size W w') :
    Calls P (ρ.f 315) #[.string s, .func (.func g) #[] lb, .bool true] w fun e w' => e = .returned (.int .i64 (-1)) ∧ Below w.heap.size w w' := by
  have t0 := L.t0; have a0 := L.a0; have z0 := L.z0; have v0 := L.v0; have t3 := L.t3; have a3 := L.a3; have z3 := L.z3; have v3 := L.v3; have t4 := L.t4; have a4 := L.a4; have z4 := L.z4; have v4 := L.v4; have t9 := L.t9; have a9 := L.a9; have z9 := L.z9; have v9 := L.v9; have t21 := L.t21; have a21 := L.a21; have z21 := L.z21; have v21 := L.v21; have t40 := L.t40; have a40 := L.a40; have z40 := L.z40; have v40 := L.v40
  go_enter L.f315, Body.n315_ntmps ρ
  go_wp2
  go_loopg [] s.size (fun gf wx => ∃ pos : Nat, wx.heap[w.heap.size]? = some (.stringIter s pos) ∧ Below w.heap.size w wx ∧ s.size ≤ pos + gf)
  case atStart => exact ⟨0, World.iter_heap w s 0, (Below.refl _ w).alloc (Nat.le_refl _) _, by omega⟩
  case round =>
    obtain ⟨pos, hit, hbw, hfu⟩ := hrel
    by_cases hps : pos < s.size
    · obtain ⟨g', rfl⟩ : ∃ g', gk = g' + 1 := ⟨gk - 1, by omega⟩
      have hnx : ∀ ty, (Instr.next (.pointer (some ⟨w.heap.size, 0, none⟩)) true ty).run P wr = _ := fun ty => Lib.run_next_any_at wr w.heap.size s pos ty hit hps
      have hwd := Lib.width_pos s pos
      have cS := fun W hb => hp W pos hps hb
      obtain ⟨R, hR⟩ : ∃ R, (Utf8.decode s pos).1 = R := ⟨_, rfl⟩
      obtain ⟨K, hK⟩ : ∃ K, (Utf8.decode s pos).2 = K := ⟨_, rfl⟩
      rw [hR, hK] at hnx
      rw [hR] at cS
      rw [hK] at hwd
      have hit2 := Lib.iterAt_heap wr w.heap.size s pos (pos + K) hit
      have hbw2 := Lib.below_iterAt hbw (k := w.heap.size) (Nat.le_refl _) s (pos + K)
      obtain ⟨W, hWd⟩ : ∃ W, wr.iterAt w.heap.size s (pos + K) = W := ⟨_, rfl⟩
      rw [hWd] at hnx hit2 hbw2
      have hltW : w.heap.size < W.heap.size := (Array.getElem?_eq_some_iff.1 hit2).1
      replace cS := cS W hbw2
      clear hp
      go_wp2_with (go_at_fn g; refine cS.mono ?_; rintro e W' ⟨rfl, hbc⟩)
      go_roundg g'
      case measure => omega
      case rel => exact ⟨pos + K, (hbc.block _ hltW).trans hit2, (hbw2.trans (hbc.mono hbw2.size)), by omega⟩
    · have hnx : ∀ ty, (Instr.next (.pointer (some ⟨w.heap.size, 0, none⟩)) true ty).run P wr = _ := fun ty => Lib.run_next_end_at wr w.heap.size s pos ty hit hps
      go_wp2
      go_ret
      exact ⟨rfl, hbw⟩
end Go.Proofs.YthbejheedpdioaaDoor
