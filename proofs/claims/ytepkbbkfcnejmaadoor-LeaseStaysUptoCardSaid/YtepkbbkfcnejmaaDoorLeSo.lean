import Derived.Test.YtepkbbkfcnejmaaDoorLeErl
import Derived.Test.YtepkbbkfcnejmaaDoorLeVic
import Derived.Test.YtepkbbkfcnejmaaDoorLeSLay
set_option linter.unusedSimpArgs false
set_option linter.unusedVariables false
namespace Go.Proofs.YtepkbbkfcnejmaaDoor
open Go Go.AM Go.RowKit Go.Shelf Go.Lib Go.Sort
set_option maxRecDepth 10000
attribute [local irreducible] aUnr aUnS aCode
theorem rSo0 (l : FLs) (q : AV → List Ob → Prop) :
  (aUnS KL GMi 4 Tryd.b33 (kRetF KL Tryd.f33.results.toList q) ⟨[.vw 0 0, fnEa] ++ List.replicate (Tryd.f33.ntmps - 2) .jk, vob l [] 0⟩) = (
  (((0 : Int) ≤ (IntKind.wrap .u8 (IntKind.wrap .u64 ((0 : Nat) : Int)))) ∧ ((IntKind.wrap .u8 (IntKind.wrap .u64 ((0 : Nat) : Int))) < ((ByteArray.size (⟨#[0, 1, 2, 2, 3, 3, 3, 3, 4, 4, 4, 4, 4, 4, 4, 4, 5, 5, 5, 5, 5, 5, 5, 5, 5, 5, 5, 5, 5, 5, 5, 5, 6, 6, 6, 6, 6, 6, 6, 6, 6, 6, 6, 6, 6, 6, 6, 6, 6, 6, 6, 6, 6, 6, 6, 6, 6, 6, 6, 6, 6, 6, 6, 6, 7, 7, 7, 7, 7, 7, 7, 7, 7, 7, 7, 7, 7, 7, 7, 7, 7, 7, 7, 7, 7, 7, 7, 7, 7, 7, 7, 7, 7, 7, 7, 7, 7, 7, 7, 7, 7, 7, 7, 7, 7, 7, 7, 7, 7, 7, 7, 7, 7, 7, 7, 7, 7, 7, 7, 7, 7, 7, 7, 7, 7, 7, 7, 7, 8, 8, 8, 8, 8, 8, 8, 8, 8, 8, 8, 8, 8, 8, 8, 8, 8, 8, 8, 8, 8, 8, 8, 8, 8, 8, 8, 8, 8, 8, 8, 8, 8, 8, 8, 8, 8, 8, 8, 8, 8, 8, 8, 8, 8, 8, 8, 8, 8, 8, 8, 8, 8, 8, 8, 8, 8, 8, 8, 8, 8, 8, 8, 8, 8, 8, 8, 8, 8, 8, 8, 8, 8, 8, 8, 8, 8, 8, 8, 8, 8, 8, 8, 8, 8, 8, 8, 8, 8, 8, 8, 8, 8, 8, 8, 8, 8, 8, 8, 8, 8, 8, 8, 8, 8, 8, 8, 8, 8, 8, 8, 8, 8, 8, 8, 8, 8, 8, 8, 8, 8, 8, 8, 8, 8, 8, 8, 8]⟩ : ByteArray)) : Int))) ∧
  q (AV.tp []) [Ob.row 1 [], Ob.bun (famR (FamD.mk (KK.int IntKind.i64) (Shp.box SK) l)), Ob.gh [AV.vw 0 0, AV.mp 1], Ob.gone, Ob.gone, Ob.gone, Ob.gone]) := by kernel_rfl
abbrev SesL (l : FLs) := { e : Key × Nat × Rec // e ∈ l }
def encS {l : FLs} (e : SesL l) : Value := .pointer (some ⟨e.1.2.1, 0, none⟩)
def cfS {l : FLs} (x y : SesL l) : Int := orI (cmpI (x.1.2.2.i 5) (y.1.2.2.i 5)) (cmpI (x.1.2.2.i 0) (y.1.2.2.i 0))
theorem lt_cf {l : FLs} (x y : SesL l) : ltOf cfS x y = decide (x.1.2.2.i 5 < y.1.2.2.i 5 ∨ (x.1.2.2.i 5 = y.1.2.2.i 5 ∧ x.1.2.2.i 0 < y.1.2.2.i 0)) := by
  unfold ltOf cfS orI cmpI
  generalize x.1.2.2.i 5 = a
  generalize y.1.2.2.i 5 = b
  generalize x.1.2.2.i 0 = c
  generalize y.1.2.2.i 0 = d
  refine decide_eq_decide.2 ?_
  repeat' split
  all_goals omega
theorem swoS {l : FLs} : SWO (ltOf (cfS (l := l))) where
  irrefl x := by rw [lt_cf]; simp
  trans x y z h1 h2 := by rw [lt_cf] at *; simp at *; omega
  ntrans x y z h1 h2 := by rw [lt_cf] at *; simp at *; omega
theorem fam_cell {X : Cx} {o : List Ob} (g : GRel X o) {j : Nat} {kk : KK} {l : FLs} (hj : o[j]? = some (.bun (famR ⟨kk, .box SK, l⟩))) {e : Key × Nat × Rec} (he : e ∈ l) : X.blk j e.2.1 ∧ e.2.1 < X.w.heap.size ∧ X.z j = false ∧ X.w.cell? ⟨e.2.1, 5, none⟩ = some (.int .i64 (e.2.2.i 5)) ∧ X.w.cell? ⟨e.2.1, 0, none⟩ = some (.int .i64 (e.2.2.i 0)) := by
  obtain ⟨hz, h1, h2, h3, h4⟩ := g.rel j _ hj
  obtain ⟨_, hfp, arr, T, h5, h6, h7⟩ := h4 e he
  have hb : X.blk j e.2.1 := .inr hfp
  refine ⟨hb, g.ltB j _ hj rfl hz _ hb, hz, ?_, ?_⟩
  · have := (h7 5 (by decide)).2
    simp only [World.cell?, h5]
    have hs : 5 < arr.size := by rw [h6]; decide
    rw [Array.getElem?_eq_getElem hs]
    simpa [hs, FK.val] using this
  · have := (h7 0 (by decide)).2
    simp only [World.cell?, h5]
    have hs : 0 < arr.size := by rw [h6]; decide
    rw [Array.getElem?_eq_getElem hs]
    simpa [hs, FK.val] using this
theorem sort_heap {α : Type} [Inhabited α] {enc : α → Value} {w : World} {blk off m : Nat} {dk : Array α} {os : Array Obj} {b : Nat} (hb : b < w.heap.size) (hne : b ≠ blk) : (sortWorld enc w blk off m dk os).heap[b]? = w.heap[b]? := by
  unfold sortWorld grow putRow mapBlock
  show ((w.heap.modify blk _) ++ os)[b]? = _
  rw [Array.getElem?_append_left (by simpa using hb), Array.getElem?_modify, if_neg (fun e => hne e.symm)]
def ESo : REnt := fun al o q => ∃ l mm, al = [.vw 0 mm.length, fnEa] ∧ o = vob l (mm.map rawD) mm.length ∧ RowOk l mm (mm.map rawD) ∧ ∀ mm' : FLs, mm'.Perm mm → q (.tp []) (vob l (mm'.map rawD) mm.length)
theorem cSo0 : RSound Tryd.prog 33 (fun al o q => ∃ l, al = [.vw 0 0, fnEa] ∧ o = vob l [] 0 ∧ q (.tp []) (vob l [] 0)) := by
  refine ref_gen trimW trimW_ok (unS_bsound 4 mixed KL_ok gMi Tryd.b33) KL_ok Tryd.func33 rfl rfl Tryd.call33 fun al o q ⟨l, h1, h2, hq⟩ => ?_
  subst h1 h2
  exact cast (rSo0 l (trimW q)).symm ⟨by decide +kernel, _, _, weak_packG [some 0, some 1, some 2] rfl, hq⟩
theorem cSo : RSound Tryd.prog 33 ESo := by
  refine ⟨Tryd.call33, fun X o gv al vs q g hgh hT hlen hrel ⟨l, mm, h1, h2, hR, hq⟩ => ?_⟩
  by_cases hmm : mm = []
  · subst hmm
    exact cSo0.call X o gv al vs q g hgh hT hlen hrel ⟨l, h1, h2, hq [] (List.Perm.refl _)⟩
  subst h1 h2
  have hpos : 0 < mm.length := List.length_pos_iff.2 hmm
  have hlen1000 := hR.len
  have r0 := hrel 0 (by simp)
  have r1 := hrel 1 (by simp)
  simp only [List.getElem_cons_zero, List.getElem_cons_succ] at r0 r1
  obtain ⟨_, ⟨hz, hcap, ev⟩ | ⟨_, h, _⟩⟩ := inv_vw r0
  · obtain ⟨fv, cv, ef, hf1, hf2, _, _⟩ := inv_fn4 r1
    have hfv : fv = #[] := Array.eq_empty_of_size_eq_zero (by simpa using hf1)
    have hcv : cv = #[] := Array.eq_empty_of_size_eq_zero (by simpa using hf2)
    subst hfv hcv
    have hvs : vs = #[.slice (some ⟨X.b 0, 0, none⟩) mm.length (X.c 0).1, .func (.func 34) #[] #[]] := by
      apply Array.ext_getElem?
      intro k
      have hs2 : vs.size = 2 := by simpa using hlen
      rcases k with _ | _ | k
      · have := ev; simp [Array.getD, hs2] at this; simp [hs2, this]
      · have := ef; simp [Array.getD, hs2] at this; simp [hs2, this]
      · rw [Array.getElem?_eq_none (by omega), Array.getElem?_eq_none (by simp)]
    have ho0 : (vob l (mm.map rawD) mm.length)[0]? = some (.row 1 (mm.map rawD)) := rfl
    have ho1 : (vob l (mm.map rawD) mm.length)[1]? = some (.bun (famR ⟨.int .i64, .box SK, l⟩)) := rfl
    obtain ⟨_, p2, hrow⟩ := g.rel 0 _ ho0
    rcases hrow with ⟨hz2, _⟩ | ⟨_, arr, T, g1, glen, g2, g3, g4, g5⟩
    · rw [hz] at hz2; cases hz2
    have hblk : X.b 0 < X.w.heap.size := g.lt 0 _ ho0 rfl hz
    letI : Inhabited (SesL l) := ⟨⟨mm[0], hR.sub _ (List.getElem_mem hpos)⟩⟩
    let d : Array (SesL l) := (mm.pmap (fun e h => (⟨e, h⟩ : SesL l)) hR.sub).toArray
    have hd : d.size = mm.length := by simp [d]
    have hdj : ∀ (j : Nat) (h : j < mm.length), d[j]! = ⟨mm[j], hR.sub _ (List.getElem_mem h)⟩ := fun j h => by
      rw [getElem!_pos _ j (by rw [hd]; exact h)]
      simp [d]
    have hsz1 : mm.length ≤ arr.size := by
      have : (X.c 0).1 * 1 ≤ arr.size := g2
      have h3 : (mm.map rawD).length ≤ (X.c 0).1 := g3
      rw [List.length_map] at h3
      omega
    have hH : Holds encS X.w (X.b 0) 0 d := fun j hj => by
      rw [hd] at hj
      have hjr : j < (mm.map rawD).length := by simpa using hj
      have hc := g5 j hjr 0 (by rw [g4 j hjr]; decide)
      have e1 : (mm.map rawD)[j] = rawD mm[j] := by simp
      have e2 : (mm.map rawD)[j][0]'(by rw [g4 j hjr]; decide) = .v (.pointer (some ⟨mm[j].2.1, 0, none⟩)) := by simp only [e1]; rfl
      rw [e2] at hc
      have hjs : j < arr.size := by omega
      have e3 : arr.getD (j * 1 + 0) undef = .pointer (some ⟨mm[j].2.1, 0, none⟩) := by
        generalize arr.getD (j * 1 + 0) undef = x at hc ⊢
        cases hc; rfl
      rw [Nat.mul_one, Nat.add_zero] at e3
      refine ⟨?_, ?_⟩
      · rw [hdj j hj]
        simp only [World.cell?, g1, Nat.zero_add]
        simpa [hjs, encS] using e3
      · simp [World.frozen?, g1]
    have hcell : ∀ (x : SesL l), X.w.cell? ⟨x.1.2.1, 5, none⟩ = some (.int .i64 (x.1.2.2.i 5)) ∧ X.w.cell? ⟨x.1.2.1, 0, none⟩ = some (.int .i64 (x.1.2.2.i 0)) ∧ x.1.2.1 ≠ X.b 0 ∧ x.1.2.1 < X.w.heap.size := fun x => by
      obtain ⟨k1, k2, k3, k4, k5⟩ := fam_cell g ho1 x.2
      refine ⟨k4, k5, fun e => ?_, k2⟩
      have := g.injB 0 1 _ _ ho0 ho1 rfl rfl hz k3 (X.b 0) (.inl rfl) (by rw [← e]; exact k1)
      cases this
    have hcmp : CmpLays1 Tryd.prog 34 #[] encS cfS (X.b 0) 0 d.size X.w := fun m os dk hs x y => by
      obtain ⟨x1, x2, x3, x4⟩ := hcell x
      obtain ⟨y1, y2, y3, y4⟩ := hcell y
      have tr : ∀ (b k : Nat) (v : Value), b < X.w.heap.size → b ≠ X.b 0 → X.w.cell? ⟨b, k, none⟩ = some v → (sortWorld encS X.w (X.b 0) 0 m dk os).cell? ⟨b, k, none⟩ = some v := fun b k v h1 h2 h3 => by
        rw [← h3]
        exact cell_of_block (sort_heap h1 h2)
      exact earlierW _ _ _ _ _ _ _ (tr _ _ _ x4 x3 x1) (tr _ _ _ y4 y3 y1) (tr _ _ _ x4 x3 x2) (tr _ _ _ y4 y3 y2)
    have hcon := Any.slices_SortFunc Tryd.sortFA encS (fun _ => rfl) cfS swoS 34 #[] (X.b 0) 0 (X.c 0).1 d X.w Tryd.call34 hcmp hH hblk (by rw [hd]; omega)
    rw [hvs]
    rw [hd] at hcon
    refine Calls.mono hcon fun e w' ⟨he, d', n, os, hp, _, hw⟩ => ?_
    obtain ⟨hp1, _, hp3⟩ := hp
    have hd' : d'.size = mm.length := by rw [hp1, hd]
    have hperm : d'.toList.Perm d.toList := by
      have e1 : (d'.extract 0 mm.length) = d' := by rw [← hd']; simp
      have e2 : (d.extract 0 mm.length) = d := by rw [← hd]; simp
      rw [e1, e2] at hp3
      exact hp3
    let mm' : FLs := d'.toList.map (·.1)
    have hmm' : mm'.Perm mm := by
      have h1 := hperm.map (fun x : SesL l => x.1)
      have h2 : d.toList.map (fun x : SesL l => x.1) = mm := by
        simp only [d, List.map_pmap]
        exact List.pmap_eq_map .. |>.trans (by simp)
      rw [h2] at h1
      exact h1
    have hml : mm'.length = mm.length := hmm'.length_eq
    have hst : SRel X.w ⟨X.obj, X.ext, gv⟩ X ⟨[], vob l (mm.map rawD) mm.length⟩ { tmps := #[], defers := [] } :=
      ⟨rfl, fun i hi => absurd hi (by simp), rfl, g, rfl, ⟨rfl, rfl, rfl, Nat.le_refl _, fun _ _ _ => rfl⟩, fun b hb => .inl hb, hgh, hT⟩
    have hnew : ORel (X.upd 0 (.cells (putCells encS 0 d' arr) T (0, 0))) 0 (.row 1 (mm'.map rawD)) := by
      have hps : (putCells encS 0 d' arr).size = arr.size := by simp [putCells]
      refine ⟨by omega, by rw [List.length_map, hml]; unfold LIM; omega, .inr ⟨hz, putCells encS 0 d' arr, T, ?_, ?_, ?_, ?_, fun k hk => ?_, fun k hk j hj => ?_⟩⟩
      · rw [heap_upd, if_pos ⟨rfl, hblk⟩]
      · show (X.c 0).2 = _
        rw [glen, List.length_map, List.length_map, hml]
      · rw [hps]; exact g2
      · show (mm'.map rawD).length ≤ (X.c 0).1
        rw [List.length_map, hml]; simpa using g3
      · simp
      · have hkm : k < mm'.length := by simpa using hk
        have hkd : k < d'.size := by omega
        have e1 : (mm'.map rawD)[k] = rawD mm'[k] := by simp
        have hj0 : j = 0 := by simp only [e1] at hj; simpa using hj
        subst hj0
        have e2 : (mm'.map rawD)[k][0] = .v (.pointer (some ⟨mm'[k].2.1, 0, none⟩)) := by simp only [e1]; rfl
        rw [e2]
        have e3 : (putCells encS 0 d' arr).getD (k * 1 + 0) undef = .pointer (some ⟨mm'[k].2.1, 0, none⟩) := by
          have hka : k < arr.size := by omega
          have e4 : d'[k]! = d'[k] := getElem!_pos _ k hkd
          have e5 : mm'[k] = d'[k].1 := by simp [mm']
          rw [e5, Nat.mul_one, Nat.add_zero]
          simp [putCells, hka, hkd, e4, encS]
        rw [e3]
        exact .v rfl
    have hs1 := upd_srel hst false ho0 rfl hz (ob' := .row 1 (mm'.map rawD)) rfl (fun _ _ _ => g.rws 0 _ _ ho0) (by simp) hnew
    have hw1 : putRow encS X.w (X.b 0) 0 d' = (X.upd 0 (.cells (putCells encS 0 d' arr) T (0, 0))).w := by
      unfold putRow mapBlock Cx.upd
      simp only [World.mk.injEq, and_true, true_and]
      apply Array.ext_getElem?
      intro k
      rw [Array.getElem?_modify, Array.getElem?_setIfInBounds]
      by_cases hk : X.b 0 = k
      · subst hk
        rw [if_pos rfl, if_pos rfl, if_pos hblk, g1]; rfl
      · rw [if_neg hk, if_neg hk]
    have hbel : Below (X.upd 0 (.cells (putCells encS 0 d' arr) T (0, 0))).w.heap.size (X.upd 0 (.cells (putCells encS 0 d' arr) T (0, 0))).w w' := by
      rw [← hw1, hw]
      refine ⟨rfl, rfl, rfl, ?_, fun k hk => ?_⟩
      · show (putRow encS X.w (X.b 0) 0 d').heap.size ≤ ((putRow encS (Sort.ahead X.w n) (X.b 0) 0 d').heap ++ os).size
        rw [Array.size_append]
        exact Nat.le_add_right _ _
      · show ((putRow encS (Sort.ahead X.w n) (X.b 0) 0 d').heap ++ os)[k]? = _
        rw [Array.getElem?_append_left (by exact hk)]
        rfl
    have hs2 := hs1.below hbel
    exact ⟨.tuple #[], .tp [], vob l (mm'.map rawD) mm.length, _, he, hq mm' hmm', rfl, hs2.g, hs2.gh, .tp rfl (fun j h => absurd h (by simp)), hs2.ext, hs2.fr, hs2.new⟩
  · exact absurd h (by omega)
end Go.Proofs.YtepkbbkfcnejmaaDoor
