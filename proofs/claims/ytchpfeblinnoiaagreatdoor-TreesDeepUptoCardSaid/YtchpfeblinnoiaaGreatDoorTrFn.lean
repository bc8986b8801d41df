import Derived.Test.YtchpfeblinnoiaaGreatDoorTagsFeed2
import Derived.Test.YtchpfeblinnoiaaGreatDoorAmInl
import Derived.Test.YtchpfeblinnoiaaGreatDoorAmPart
import Derived.Test.YtchpfeblinnoiaaGreatDoorTrClone
import Derived.Test.YtchpfeblinnoiaaGreatDoorTrPs
set_option linter.unusedSimpArgs false
set_option linter.unusedVariables false
namespace Go.Proofs.YtchpfeblinnoiaaGreatDoor
open Go Go.AM Go.RowKit
set_option maxRecDepth 10000
attribute [local irreducible] aUnr aUnS aCode
noncomputable abbrev KT : TypeId → Option TK := runK Tryz.K
theorem KT_ok : KOk Tryz.prog KT := runK_ok Tryz.K_ok
noncomputable abbrev GRt : List (FuncId × En) := [(56, .det F46), (51, .det F30)]
noncomputable abbrev GRtI : List (FuncId × En) := inlΓ KT GRt tabI 20 8
theorem rRt (q : AV → Prop) :
  (aUnr KT GRtI 20 Tryz.b21 (kRet KT Tryz.f21.results.toList q) ⟨[.ag [mkS ⟨#[97]⟩, .d (.sl []), mkS ⟨#[120, 60]⟩, .d (.sl [])]] ++ List.replicate (Tryz.f21.ntmps - 1) .jk, []⟩) = (
  ((ByteArray.size (⟨#[97]⟩ : ByteArray)) ≤ LIM) ∧ (
   (0 ≤ LIM) →
   (0 ≤ LIM) →
   True ∧ (
    (0 ≤ LIM) →
    (0 ≤ LIM) →
    q (mkB true)))) := by kernel_rfl
theorem gRt : GSound Tryz.prog GRt := gsound_det c46 (gsound_det c30 gsound_nil)
theorem gRtI : GSound Tryz.prog GRtI := inl_sound mixed KT_ok gRt tabI_ok 8
abbrev elA : AV := .ag [mkS ⟨#[97]⟩, .d (.sl []), mkS ⟨#[120, 60]⟩, .d (.sl [])]
def FRt : List AV → Option (Prop × AV) := fun al => match al with
  | [.ag [.d (.v (.string s)), .d (.sl []), .d (.v (.string t)), .d (.sl [])]] => if s = ⟨#[97]⟩ ∧ t = ⟨#[120, 60]⟩ then some (True, mkB true) else none
  | _ => none
theorem cRt : PSound Tryz.prog 21 (detE FRt) := by
  refine det_unr 20 (c := Tryz.b21) mixed KT_ok gRtI Tryz.func21 rfl rfl Tryz.call21 fun al p r q hF hp hq => ?_
  unfold FRt at hF; split at hF
  · split at hF
    · rename_i h
      cases hF
      obtain ⟨rfl, rfl⟩ := h
      refine cast (rRt q).symm ?_
      repeat' (first | exact hq | exact trivial | rfl | decide | intro _ | (unfold LIM; omega) | refine And.intro ?_ ?_)
    · cases hF
  · cases hF
theorem right_elA (ad1 ad2 : Option Addr) (n1 n2 : Nat) (w : World) (hT : Tabs (fun _ => False) w) :
    Calls Tryz.prog 21 #[.agg #[.string ⟨#[97]⟩, .slice ad1 0 n1, .string ⟨#[120, 60]⟩, .slice ad2 0 n2]] w fun e w' => e = .returned (.bool true) ∧ Below w.heap.size w w' := by
  have := cRt.call (fun _ => False) w [elA] #[.agg #[.string ⟨#[97]⟩, .slice ad1 0 n1, .string ⟨#[120, 60]⟩, .slice ad2 0 n2]] (fun av => av = mkB true) (fun b h => h.elim) hT rfl (fun i hi => by
    have : i = 0 := by simpa using hi
    subst this
    refine .ag rfl fun j hj => ?_
    have hh : j = 0 ∨ j = 1 ∨ j = 2 ∨ j = 3 := by simp at hj; omega
    rcases hh with rfl | rfl | rfl | rfl
    · exact mkS_rel (by decide)
    · exact .d .nil
    · exact mkS_rel (by decide)
    · exact .d .nil) ⟨trivial, rfl⟩
  refine this.mono fun e w' ⟨v, av, h1, h2, h3, h4⟩ => ⟨?_, h4⟩
  subst h2
  rw [h1, inv_bool h3]
end Go.Proofs.YtchpfeblinnoiaaGreatDoor
