import Derived.Test.YthbejheedpdioaaDoorCrKeys
import Derived.Test.YthbejheedpdioaaDoorCrLay
set_option linter.unusedSimpArgs false
set_option linter.unusedVariables false
namespace Go.Proofs.YthbejheedpdioaaDoor
open Go Go.AM Go.RowKit Go.Maps Go.Sort Go.Shelf
open Go.Proofs (encStr)
theorem sortsA (m : Nat) : AnyZ.SortsIn Tryd.prog Tryd.sortedA_ren Fence.wide m :=
  ⟨fun blk off cap ss W hH hblk hsz => callsIn_wide.2 (AnyM.slices_Sort_string Tryd.sortA blk off cap ss W hH hblk hsz),
   fun p cap W => callsIn_wide.2 (AnyM.slices_Sort_string_none Tryd.sortA p cap W)⟩
theorem cSorted : ESound Tryd.prog 26 (keysS 44 45) := by
  refine keysS_sound Tryd.underlying9 Tryd.call26 (fun Bm b nn D0 w hlt hm hown hsz => ?_) (fun Bm b nn D0 w hlt hm hown hsz => ?_) (fun Bm w hlt hm => ?_)
  · refine (callsIn_wide (n := 5)).1 ?_
    have hseq : SeqGives Fence.wide 2 Tryd.prog 44 #[.pointer (some ⟨Bm, 0, none⟩)] encStr (fun ss => ss.Perm (strKeys D0)) (Maps.size D0) w :=
      AnyZ.keys_gives (ρ := Tryd.keysU_ren) { Tryd.keysU with } Fence.wide _ trivial rfl (by omega) Bm b nn D0 _ hlt hm hown
    have cS := AnyZ.sorted_in Tryd.sortedA Fence.wide 5 trivial trivial trivial trivial rfl (by omega) (sortsA _) (enters_of Tryd.func43 (by kernel_rfl) rfl) 44 #[.pointer (some ⟨Bm, 0, none⟩)] trivial (enters_of Tryd.func44 (by kernel_rfl) rfl) _ _ (by unfold maxLen; omega) (by omega) w hseq
    refine cS.mono ?_
    rintro e w' ⟨v, ss, rfl, hS, hrow, _, hb⟩
    exact ⟨v, ss, rfl, hS, hrow, hb⟩
  · refine (callsIn_wide (n := 5)).1 ?_
    have hseq : SeqGives Fence.wide 2 Tryd.prog 45 #[.pointer (some ⟨Bm, 0, none⟩)] encStr (fun ss => ss.Perm (strKeys D0)) (Maps.size D0) w :=
      AnyZ.keys_gives (ρ := Tryd.keysD_ren) { Tryd.keysD with } Fence.wide _ trivial rfl (by omega) Bm b nn D0 _ hlt hm hown
    have cS := AnyZ.sorted_in Tryd.sortedA Fence.wide 5 trivial trivial trivial trivial rfl (by omega) (sortsA _) (enters_of Tryd.func43 (by kernel_rfl) rfl) 45 #[.pointer (some ⟨Bm, 0, none⟩)] trivial (enters_of Tryd.func45 (by kernel_rfl) rfl) _ _ (by unfold maxLen; omega) (by omega) w hseq
    refine cS.mono ?_
    rintro e w' ⟨v, ss, rfl, hS, hrow, _, hb⟩
    exact ⟨v, ss, rfl, hS, hrow, hb⟩
  · refine (callsIn_wide (n := 5)).1 ?_
    have hseq : SeqGives Fence.wide 2 Tryd.prog 45 #[.pointer (some ⟨Bm, 0, none⟩)] encStr (fun ss : List (List UInt8) => ss = []) 0 w :=
      AnyZ.keys_gives_nil (ρ := Tryd.keysD_ren) { Tryd.keysD with } Fence.wide _ trivial rfl Bm _ hlt hm
    have cS := AnyZ.sorted_in Tryd.sortedA Fence.wide 5 trivial trivial trivial trivial rfl (by omega) (sortsA _) (enters_of Tryd.func43 (by kernel_rfl) rfl) 45 #[.pointer (some ⟨Bm, 0, none⟩)] trivial (enters_of Tryd.func45 (by kernel_rfl) rfl) _ 0 (Nat.zero_le _) (by omega) w hseq
    refine cS.mono ?_
    rintro e w' ⟨v, ss, rfl, hS, hrow, _, hb⟩
    exact ⟨v, ss, rfl, hS, hrow, hb⟩
end Go.Proofs.YthbejheedpdioaaDoor
