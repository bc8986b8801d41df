import Derived.Test.YtepkbbkfcnejmaaDoorLeKeys
import Derived.Test.YtepkbbkfcnejmaaDoorLeLay
import Derived.Test.YtepkbbkfcnejmaaDoorBindUser
set_option linter.unusedSimpArgs false
set_option linter.unusedVariables false
namespace Go.Proofs.YtepkbbkfcnejmaaDoor
open Go Go.AM Go.RowKit Go.Maps Go.Sort Go.Shelf
theorem sortsA (m : Nat) : AnyZI.SortsIn Tryd.prog Tryd.sortedA_ren Fence.wide m :=
  ⟨fun blk off cap ss W hH hblk hsz => callsIn_wide.2 (AnyM.slices_Sort_int Tryd.sortA blk off cap ss W hH hblk hsz),
   fun p cap W => callsIn_wide.2 (AnyM.slices_Sort_int_none Tryd.sortA p cap W)⟩
theorem cSorted : ESound Tryd.prog 47 (keysE 65) := by
  refine keys_sound Tryd.underlying3 Tryd.call47 fun Bm b nn D0 w hlt hm hown hsz => ?_
  refine (callsIn_wide (n := 5)).1 ?_
  have hseq : SeqGives Fence.wide 2 Tryd.prog 65 #[.pointer (some ⟨Bm, 0, none⟩)] encZ (fun ss => ss.Perm (intKeys D0)) (Maps.size D0) w :=
    AnyZI.keys_gives (ρ := Tryd.keysA_ren) { Tryd.keysA with } Fence.wide _ trivial rfl (by omega) Bm b nn D0 _ hlt hm hown
  have cS := AnyZI.sorted_in Tryd.sortedA Fence.wide 5 trivial trivial trivial trivial rfl (by omega) (sortsA _) (enters_of Tryd.func64 (by kernel_rfl) rfl) 65 #[.pointer (some ⟨Bm, 0, none⟩)] trivial (enters_of Tryd.func65 (by kernel_rfl) rfl) _ _ (by unfold maxLen; omega) (by omega) w hseq
  refine cS.mono ?_
  rintro e w' ⟨v, ss, rfl, hS, hrow, _, hb⟩
  exact ⟨v, ss, rfl, hS, hrow, hb⟩
end Go.Proofs.YtepkbbkfcnejmaaDoor
