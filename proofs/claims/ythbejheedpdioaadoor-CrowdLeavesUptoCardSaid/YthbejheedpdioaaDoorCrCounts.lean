import Derived.Test.YthbejheedpdioaaDoorCrLives
import Derived.Test.YthbejheedpdioaaDoorCrSame
set_option linter.unusedSimpArgs false
set_option linter.unusedVariables false
namespace Go.Proofs.YthbejheedpdioaaDoor
open Go Go.AM Go.RowKit
set_option maxRecDepth 10000
attribute [local irreducible] aUnr aUnS aCode
theorem he_keep {l l' : FLs} {kind e : Int} {ty fr sh : ByteArray} (h : HeR l kind ty fr sh e l') (hC : CrOk l) (hn : cntL l ≤ 64) : CrOk l' ∧ cntL l' ≤ 64 := by
  cases h with
  | bad h => exact ⟨hC, hn⟩
  | full h1 h2 h3 h4 h5 h6 => exact ⟨hC, hn⟩
  | off h1 h2 h3 h =>
    refine ⟨h.ok, ?_⟩
    have hc := h.cnt
    have : (lvM (cutD fr) (devs l (cutU fr))).length ≤ (devs l (cutU fr)).length := by
      unfold lvM
      split
      · exact Nat.zero_le _
      · exact (del_sublK _).length_le
    omega
  | on h1 h2 h3 h4 h5 h =>
    refine ⟨h.ok, ?_⟩
    have hc := h.cnt
    have hs := (set_has (k := .s (cutD fr)) (v := mkS sh) (devs l (cutU fr))).2
    rcases h5 with h5 | h5
    · rw [h5] at hs; simp at hs; omega
    · split at hs <;> omega
theorem stz_cons (sl : List Stz) {i : Nat} (h : i < sl.length) : (stzL sl).getD ((i : Int).toNat) [] = stzD sl[i] := by rw [Int.toNat_natCast]; exact stzL_getD sl h
end Go.Proofs.YthbejheedpdioaaDoor
