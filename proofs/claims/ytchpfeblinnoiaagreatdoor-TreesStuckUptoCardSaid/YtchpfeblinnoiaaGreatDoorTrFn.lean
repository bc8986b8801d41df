import Derived.Test.YtchpfeblinnoiaaGreatDoorTrEsp
import Derived.Test.YtchpfeblinnoiaaGreatDoorTagsLib
import Derived.Test.YtchpfeblinnoiaaGreatDoorAmPart
import Derived.Test.YtchpfeblinnoiaaGreatDoorTagsFeed2
import Derived.Test.YtchpfeblinnoiaaGreatDoorAmInl
set_option linter.unusedSimpArgs false
set_option linter.unusedVariables false
set_option maxRecDepth 10000
namespace Go.Proofs.YtchpfeblinnoiaaGreatDoor
open Go Go.AM Go.RowKit
theorem bytes53 : Tryz.t53.bytes = 32 := rfl
set_option maxRecDepth 100000 in
theorem clone_some (b off n cap : Nat) (g : Nat → Nat → Value) (w : World) (hn1 : 0 < n) (hlim : n ≤ LIM) (hc : ∀ i j, i < n → j < 2 → w.cell? ⟨b, off + (i * 2 + j), none⟩ = some (g i j)) :
    Calls Tryz.prog 59 #[.slice (some ⟨b, off, none⟩) n cap] w fun e w' => (∃ b' cap', e = .returned (.slice (some ⟨b', 0, none⟩) n cap') ∧ n ≤ cap' ∧ w.heap.size ≤ b' ∧ ∀ i j, i < n → j < 2 → w'.cell? ⟨b', 0 + (i * 2 + j), none⟩ = some (g i j)) ∧ Below w.heap.size w w' := by
  have hn0 : ¬ n = 0 := by omega
  have hl : ∀ W : World, (∀ a : Addr, a.block < w.heap.size → W.cell? a = w.cell? a) → (loadCellsFrom ⟨b, off, none⟩ 0 (n * 2) #[]).run Tryz.prog W = .ok ((List.range (n * 2)).map fun m => g (m / 2) (m % 2)).toArray W := fun W hW => by
    have := Go.AM.run_loadCells (P := Tryz.prog) (w := W) (b := b) (off := off) (n := n * 2) (f := fun m => g (m / 2) (m % 2)) (fun m hm => by
      have h := hc (m / 2) (m % 2) (by omega) (by omega)
      rw [show m / 2 * 2 + m % 2 = m by omega] at h
      rw [hW _ (World.block_lt_of_cell? w _ h)]
      exact h)
    unfold loadCells at this
    exact this
  have hl1 := hl (w.alloc (Obj.cells #[] 53)).drew (fun a ha => by rw [World.cell?_drew, World.cell?_alloc_lt _ _ _ ha])
  have hnil' : ∀ (a : Addr) (n c : Nat) (w : World), (Go.binOp .eql 29 (.slice (some a) n c) (.slice none 0 0)).run Tryz.prog w = .ok (.bool false) w := fun a n c w => by kernel_rfl
  clear hl
  go_enter Tryz.func59, Tryz.ntmps59
  go_wp2
  · rename_i h
    unfold LIM at hlim
    omega
  · rename_i h
    have := nextcap_le (need := n) (cap := 0) hlim (by omega)
    rw [bytes53] at h
    omega
  · go_ret
    refine ⟨⟨w.heap.size + 1, _, rfl, Nat.le_add_right n _, by omega, fun i j hi hj => ?_⟩, by go_grown⟩
    have hlt : i * 2 + j < n * 2 := by omega
    rw [World.cell?_drew, World.cell?_alloc_at _ _ _ _ (by simp), Array.getElem?_append_left (by simp; omega)]
    have e1 : (i * 2 + j) / 2 = i := by omega
    have e2 : (i * 2 + j) % 2 = j := by omega
    simp [hlt, e1, e2]
set_option maxRecDepth 100000 in
theorem clone_empty (ad : Option Addr) (cap : Nat) (w : World) :
    Calls Tryz.prog 59 #[.slice ad 0 cap] w fun e w' => (∃ ad' cap', e = .returned (.slice ad' 0 cap')) ∧ Below w.heap.size w w' := by
  have hnil' : ∀ (a : Addr) (n c : Nat) (w : World), (Go.binOp .eql 29 (.slice (some a) n c) (.slice none 0 0)).run Tryz.prog w = .ok (.bool false) w := fun a n c w => by kernel_rfl
  have hnil'' : ∀ (n c : Nat) (w : World), (Go.binOp .eql 29 (.slice none n c) (.slice none 0 0)).run Tryz.prog w = .ok (.bool true) w := fun n c w => by kernel_rfl
  cases ad with
  | none =>
    go_enter Tryz.func59, Tryz.ntmps59
    go_wp2
    go_ret
    exact ⟨⟨_, _, rfl⟩, by go_grown⟩
  | some a =>
    have hl1 : ∀ W : World, (loadCellsFrom a 0 0 #[]).run Tryz.prog W = .ok #[] W := fun W => rfl
    have hs1 : ∀ (a : Addr) (W : World), (storeCells a []).run Tryz.prog W = .ok () W := fun a W => rfl
    go_enter Tryz.func59, Tryz.ntmps59
    go_wp2
    go_ret
    exact ⟨⟨_, _, rfl⟩, by go_grown⟩
def ECl : List AV → (AV → Prop) → Prop := fun al q => ∃ es, al = [.d (.sl es)] ∧ (∀ c ∈ es, c.length = 2) ∧ q (.d (.sl es))
theorem cCl : PSound Tryz.prog 59 ECl := by
  refine ⟨Tryz.call59, fun ext w al vs q hext hT hlen hrel ⟨es, h1, h2, hq⟩ => ?_⟩
  subst h1
  have hv := hrel 0 (by simp)
  obtain ⟨v, rfl⟩ : ∃ v, vs = #[v] := ⟨_, arr1 (by simpa using hlen) rfl⟩
  simp only [List.getElem_cons_zero] at hv
  have hv : VRel (Cx.bare ext w) (.d (.sl es)) v := hv
  obtain ⟨hl, ⟨rfl, ad, cap, rfl⟩ | ⟨b, off, cap, sz, g, rfl, hcap, hsz, hb, hs, hc, hr⟩⟩ := inv_sl hv
  · refine (clone_empty ad cap w).mono ?_
    rintro e w' ⟨⟨ad', cap', rfl⟩, hB⟩
    exact ⟨_, _, rfl, hq, .d .nil, hB⟩
  · by_cases h0 : es = []
    · subst h0
      refine (clone_empty (some ⟨b, off, none⟩) cap w).mono ?_
      rintro e w' ⟨⟨ad', cap', rfl⟩, hB⟩
      exact ⟨_, _, rfl, hq, .d .nil, hB⟩
    · have hpos : 0 < es.length := List.length_pos_iff.2 h0
      have hsz2 : sz = 2 := by rw [← hs 0 hpos]; exact h2 _ (List.getElem_mem _)
      subst hsz2
      refine (clone_some b off es.length cap g w hpos hl hc).mono ?_
      rintro e w' ⟨⟨b', cap', rfl, hcap', hb', hc'⟩, hB⟩
      have hk : Keeps (Cx.bare ext w).own (Cx.bare ext w).w (Cx.bare ext w').own (Cx.bare ext w').w := ⟨hB.size, fun c hc hn => ⟨hB.block c hc, hn⟩⟩
      refine ⟨_, _, rfl, hq, .d (.sl 2 (by omega) g hl hcap' (fun _ hh => ?_) hs hc' (fun i hi j hj => (hr i hi j hj).mono hk)), hB⟩
      rcases hh with hh | hh
      · exact hh
      · have := hext _ hh; omega
def FCl : List AV → Option (Prop × AV) := fun al => match al with
  | [.d (.sl es)] => some (∀ c ∈ es, c.length = 2, .d (.sl es))
  | _ => none
theorem cClD : PSound Tryz.prog 59 (detE FCl) := cCl.det fun al p r hF hp q hq => by
  unfold FCl at hF; split at hF <;> cases hF
  exact ⟨_, rfl, hp, hq⟩
end Go.Proofs.YtchpfeblinnoiaaGreatDoor

namespace Go.Proofs.YtchpfeblinnoiaaGreatDoor
open Go Go.AM Go.RowKit
end Go.Proofs.YtchpfeblinnoiaaGreatDoor

namespace Go.Proofs.YtchpfeblinnoiaaGreatDoor
open Go Go.AM Go.RowKit
attribute [local irreducible] aUnr aUnS aCode
noncomputable abbrev KT : TypeId → Option TK := runK Tryz.K
theorem KT_ok : KOk Tryz.prog KT := runK_ok Tryz.K_ok
noncomputable abbrev GRt : List (FuncId × En) := [(56, .det F46), (51, .det F30)]
noncomputable abbrev GRtI : List (FuncId × En) := inlΓ KT GRt tabI 20 8
theorem rRt (q : AV → Prop) :
  (aUnr KT GRtI 20 Tryz.b21 (kRet KT Tryz.f21.results.toList q) ⟨[.ag [mkS ⟨#[97]⟩, .d (.sl []), mkS ⟨#[120, 60]⟩, .d (.sl [])]] ++ List.replicate (Tryz.f21.ntmps - 1) .jk, []⟩) = (
  ((ByteArray.size (⟨#[97]⟩ : ByteArray)) ≤ LIM) ∧ (
   (0 ≤ LIM) →
   (0 ≤ LIM) →
   True ∧ (
    (0 ≤ LIM) →
    (0 ≤ LIM) →
    q (mkB true)))) := by kernel_rfl
theorem gRt : GSound Tryz.prog GRt := gsound_det c46 (gsound_det c30 gsound_nil)
theorem gRtI : GSound Tryz.prog GRtI := inl_sound mixed KT_ok gRt tabI_ok 8
abbrev elA : AV := .ag [mkS ⟨#[97]⟩, .d (.sl []), mkS ⟨#[120, 60]⟩, .d (.sl [])]
def FRt : List AV → Option (Prop × AV) := fun al => match al with
  | [.ag [.d (.v (.string s)), .d (.sl []), .d (.v (.string t)), .d (.sl [])]] => if s = ⟨#[97]⟩ ∧ t = ⟨#[120, 60]⟩ then some (True, mkB true) else none
  | _ => none
theorem cRt : PSound Tryz.prog 21 (detE FRt) := by
  refine det_unr 20 (c := Tryz.b21) mixed KT_ok gRtI Tryz.func21 rfl rfl Tryz.call21 fun al p r q hF hp hq => ?_
  unfold FRt at hF; split at hF
  · split at hF
    · rename_i h
      cases hF
      obtain ⟨rfl, rfl⟩ := h
      refine cast (rRt q).symm ?_
      repeat' (first | exact hq | exact trivial | rfl | decide | intro _ | (unfold LIM; omega) | refine And.intro ?_ ?_)
    · cases hF
  · cases hF
theorem right_elA (ad1 ad2 : Option Addr) (n1 n2 : Nat) (w : World) (hT : Tabs (fun _ => False) w) :
    Calls Tryz.prog 21 #[.agg #[.string ⟨#[97]⟩, .slice ad1 0 n1, .string ⟨#[120, 60]⟩, .slice ad2 0 n2]] w fun e w' => e = .returned (.bool true) ∧ Below w.heap.size w w' := by
  have := cRt.call (fun _ => False) w [elA] #[.agg #[.string ⟨#[97]⟩, .slice ad1 0 n1, .string ⟨#[120, 60]⟩, .slice ad2 0 n2]] (fun av => av = mkB true) (fun b h => h.elim) hT rfl (fun i hi => by
    have : i = 0 := by simpa using hi
    subst this
    refine .ag rfl fun j hj => ?_
    have hh : j = 0 ∨ j = 1 ∨ j = 2 ∨ j = 3 := by simp at hj; omega
    rcases hh with rfl | rfl | rfl | rfl
    · exact mkS_rel (by decide)
    · exact .d .nil
    · exact mkS_rel (by decide)
    · exact .d .nil) ⟨trivial, rfl⟩
  refine this.mono fun e w' ⟨v, av, h1, h2, h3, h4⟩ => ⟨?_, h4⟩
  subst h2
  rw [h1, inv_bool h3]
end Go.Proofs.YtchpfeblinnoiaaGreatDoor
