import Derived.Test.YtepkbbkfcnejmaaDoorAmUnr
import Derived.Test.YtepkbbkfcnejmaaDoorAmLib
import Derived.Test.YtepkbbkfcnejmaaDoorAmTypes
import Derived.Shelf.SlIterI.Nil
import Derived.Maps.OwnSet
set_option linter.unusedSimpArgs false
set_option linter.unusedVariables false
namespace Go.AM
open Go Go.RowKit Go.Maps Go.Sort Go.ChangeMaps Go.MapKept
def keysI : List (Key × AV) → Option (List Int)
  | [] => some []
  | (k, _) :: l => match k with
    | .i .i64 n => match keysI l with
      | some r => some (n :: r)
      | none => none
    | _ => none
def insI (x : Int) : List Int → List Int
  | [] => [x]
  | y :: l => match decide (x ≤ y) with
    | true => x :: y :: l
    | false => y :: insI x l
def sortI : List Int → List Int
  | [] => []
  | x :: l => insI x (sortI l)
def intsD (l : List Int) : List (List D) := l.map fun n => [.v (.int .i64 n)]
def okI : List Int → Bool
  | [] => true
  | x :: l => decide (-9223372036854775808 ≤ x) && decide (x ≤ 9223372036854775807) && !(l.any fun y => decide (x = y)) && okI l
def keyI : Key → Int
  | .i _ n => n
  | _ => 0
def keysF (l : List (Key × Nat × Rec)) : List Int := l.map fun e => keyI e.1
structure IdsOk (l : List (Key × Nat × Rec)) : Prop where
  key : ∀ e ∈ l, ∃ n, e.1 = .i .i64 n ∧ -9223372036854775808 ≤ n ∧ n ≤ 9223372036854775807
  ord : (keysF l).Pairwise (· < ·)
  len : l.length ≤ 1000
def keysE (f : FuncId) : Ent := fun al o q => match al with
  | [.fn (.func g) [] [.rf b 0]] => chk (Nat.beq g f) (match o[b]? with
    | some (.box [.mp m]) => match o[m]? with
      | some (.map kk ents) => match keysI ents with
        | some ks => chk (okI ks && Nat.ble ks.length 1000) (q (.d (.sl (intsD (sortI ks)))) o none)
        | none => False
      | some (.bun R) => match R.tag with
        | some f => IdsOk f.l ∧ q (.d (.sl (intsD (keysF f.l)))) o none
        | none => False
      | _ => False
    | _ => False)
  | _ => False
theorem keysI_get : ∀ {l : List (Key × AV)} {ks : List Int}, keysI l = some ks → ks.length = l.length ∧ ∀ (j : Nat) (h : j < l.length) (h' : j < ks.length), l[j].1 = .i .i64 ks[j]
  | [], ks, h => by cases h; exact ⟨rfl, fun j h => absurd h (by simp)⟩
  | (k, v) :: l, ks, h => by
    unfold keysI at h
    split at h
    · rename_i n
      split at h
      · rename_i r hr
        cases h
        obtain ⟨h1, h2⟩ := keysI_get hr
        refine ⟨by simp [h1], fun j hj hj' => ?_⟩
        cases j with
        | zero => rfl
        | succ j => exact h2 j (by simpa using hj) (by simpa using hj')
      · cases h
    · cases h
theorem insI_perm (x : Int) : ∀ l, (insI x l).Perm (x :: l)
  | [] => .refl _
  | y :: l => by
    unfold insI
    split
    · exact .refl _
    · exact ((insI_perm x l).cons y).trans (.swap _ _ _)
theorem sortI_perm : ∀ l, (sortI l).Perm l
  | [] => .refl _
  | x :: l => (insI_perm x _).trans ((sortI_perm l).cons x)
theorem insI_sorted (x : Int) : ∀ l : List Int, l.Pairwise (· ≤ ·) → (insI x l).Pairwise (· ≤ ·)
  | [], _ => by simp [insI]
  | y :: l, h => by
    unfold insI
    split
    · rename_i hd
      have hxy : x ≤ y := of_decide_eq_true hd
      refine List.pairwise_cons.2 ⟨fun z hz => ?_, h⟩
      rcases List.mem_cons.1 hz with rfl | hz
      · exact hxy
      · exact Int.le_trans hxy ((List.pairwise_cons.1 h).1 z hz)
    · rename_i hd
      have hxy : y ≤ x := by have := of_decide_eq_false hd; omega
      refine List.pairwise_cons.2 ⟨fun z hz => ?_, insI_sorted x l (List.pairwise_cons.1 h).2⟩
      rcases List.mem_cons.1 ((insI_perm x l).mem_iff.1 hz) with rfl | hz
      · exact hxy
      · exact (List.pairwise_cons.1 h).1 z hz
theorem sortI_sorted : ∀ l, (sortI l).Pairwise (· ≤ ·)
  | [] => .nil
  | x :: l => insI_sorted x _ (sortI_sorted l)
theorem sorted_eq {a b : List Int} (hp : a.Perm b) (ha : a.Pairwise (· ≤ ·)) (hb : b.Pairwise (· ≤ ·)) : a = b :=
  List.Perm.eq_of_pairwise (le := (· ≤ ·)) (fun x y _ _ h1 h2 => Int.le_antisymm h1 h2) ha hb hp
theorem merge_eq {ss ks : List Int} (h : ss.Perm ks) : ss.mergeSort (fun x y => decide (x ≤ y)) = sortI ks := by
  refine sorted_eq ((List.mergeSort_perm ss _).trans (h.trans (sortI_perm ks).symm)) ?_ (sortI_sorted ks)
  have := List.pairwise_mergeSort (le := fun x y : Int => decide (x ≤ y)) (fun a b c h1 h2 => by simp only [decide_eq_true_eq] at *; omega) (fun a b => by simp only [Bool.or_eq_true, decide_eq_true_eq]; omega) ss
  exact this.imp fun h => of_decide_eq_true h
theorem okI_spec : ∀ {l : List Int}, okI l = true → (∀ x ∈ l, -9223372036854775808 ≤ x ∧ x ≤ 9223372036854775807) ∧ l.Nodup
  | [], _ => ⟨fun x h => absurd h (by simp), .nil⟩
  | x :: l, h => by
    simp only [okI, Bool.and_eq_true, decide_eq_true_eq, Bool.not_eq_true', List.any_eq_false] at h
    obtain ⟨⟨⟨h1, h2⟩, h3⟩, h4⟩ := h
    obtain ⟨g1, g2⟩ := okI_spec h4
    refine ⟨fun y hy => ?_, List.nodup_cons.2 ⟨fun hm => ?_, g2⟩⟩
    · rcases List.mem_cons.1 hy with rfl | hy
      · exact ⟨h1, h2⟩
      · exact g1 y hy
    · have := h3 x hm
      simp at this
theorem okI_mk : ∀ {l : List Int}, (∀ x ∈ l, -9223372036854775808 ≤ x ∧ x ≤ 9223372036854775807) → l.Nodup → okI l = true
  | [], _, _ => rfl
  | x :: l, h1, h2 => by
    obtain ⟨h3, h4⟩ := List.nodup_cons.1 h2
    simp only [okI, Bool.and_eq_true, decide_eq_true_eq, Bool.not_eq_true', List.any_eq_false]
    exact ⟨⟨h1 x (by simp), fun y hy e => h3 (e ▸ hy)⟩, okI_mk (fun y hy => h1 y (by simp [hy])) h4⟩
theorem insert_perm {H : Type} (x : Lit × DataW H) : ∀ l, (DataW.insert x l).Perm (x :: l)
  | [] => .refl _
  | y :: l => by
    unfold DataW.insert
    split
    · exact .refl _
    · exact ((insert_perm x l).cons y).trans (.swap _ _ _)
theorem foldr_perm {H : Type} : ∀ l : List (Lit × DataW H), (l.foldr DataW.insert []).Perm l
  | [] => .refl _
  | x :: l => (insert_perm x _).trans ((foldr_perm l).cons x)
def anyR : Value → Option (DataW Unit × List MemPlace) := fun _ => some (.nil, [])
theorem owns_keys {P : Program} {k : TypeId} (hk : P.underlying k = some (.int .i64)) {w : World} {b : Nat} {me : Array MapEntry} {clock : Nat} {ks : List Int} (hb : w.heap[b]? = some (.map me clock)) (h1 : ∀ (j : Nat) (h : j < me.size), me[j].born < clock)
    (h2 : ∀ (j l : Nat) (hj : j < me.size) (hl : l < me.size), me[j].born = me[l].born → j = l) (hl : me.size = ks.length) (h3 : ∀ (j : Nat) (h : j < me.size) (h' : j < ks.length), me[j].key = .int .i64 ks[j]) (hok : okI ks = true) (h1000 : ks.length ≤ 1000) :
    ∃ D0, w.ownsMap P k anyR b me.size D0 ∧ (intKeys D0).Perm ks ∧ Maps.size D0 = ks.length := by
  obtain ⟨g1, g2⟩ := okI_spec hok
  have hkeys : me.toList.map (·.key) = ks.map fun n => Value.int .i64 n := by
    apply List.ext_getElem
    · simp [hl]
    · intro j hj hj'
      simp only [List.length_map, Array.length_toList] at hj
      simp only [List.getElem_map, Array.getElem_toList]
      exact h3 j hj (by omega)
  have hwf : ∀ x ∈ me.toList, ∃ n ∈ ks, x.key = .int .i64 n := fun x hx => by
    have : x.key ∈ me.toList.map (·.key) := List.mem_map_of_mem hx
    rw [hkeys] at this
    obtain ⟨n, hn, e⟩ := List.mem_map.1 this
    exact ⟨n, hn, e.symm⟩
  have lw : ∀ n ∈ ks, (Lit.int .i64 n).wf = true := fun n hn => by
    have := g1 n hn
    have e1 : IntKind.i64.min = -9223372036854775808 := rfl
    have e2 : IntKind.i64.max = 9223372036854775807 := rfl
    simp only [Lit.wf, Bool.and_eq_true, decide_eq_true_eq]
    rw [e1, e2]; exact this
  have fit : WideElems.Fit P k anyR me clock := by
    refine ⟨by rw [hl]; unfold maxLen; omega, ⟨fun x hx => ?_, ?_, ?_⟩, fun x hx => ?_⟩
    · obtain ⟨j, hj, rfl⟩ := List.getElem_of_mem hx
      simp only [Array.length_toList] at hj
      simpa using h1 j hj
    · unfold List.Nodup
      rw [List.pairwise_iff_getElem]
      intro i j hi hj hij e
      simp only [List.length_map, Array.length_toList] at hi hj
      simp only [List.getElem_map, Array.getElem_toList] at e
      have := h2 i j hi hj e
      omega
    · rw [hkeys]
      exact List.Pairwise.map _ (fun a b h e => h (by simpa using e)) g2
    · obtain ⟨n, hn, e⟩ := hwf x hx
      exact ⟨_, by unfold WideElems.rd; rw [e, keyOf_int_mk hk (lw n hn)]; rfl⟩
  have own := World.ownsMap_of_fit (R := anyR) hb fit (fun x _ z h => h)
  refine ⟨_, own, ?_, ?_⟩
  · show (List.map _ (List.foldr DataW.insert [] _)).Perm ks
    refine ((foldr_perm _).map _).trans ?_
    rw [List.map_map]
    have : (me.toList.map ((fun p : Lit × DataW Unit => intOf p.1) ∘ WideElems.rg P k anyR)) = ks := by
      have e : ∀ x ∈ me.toList, ((fun p : Lit × DataW Unit => intOf p.1) ∘ WideElems.rg P k anyR) x = (match x.key with | .int _ n => n | _ => 0) := fun x hx => by
        obtain ⟨n, hn, e⟩ := hwf x hx
        simp only [Function.comp, WideElems.rg, WideElems.rd, e, keyOf_int_mk hk (lw n hn)]
        rfl
      rw [List.map_congr_left e]
      have e2 : (me.toList.map fun x => (match x.key with | .int _ n => n | _ => 0)) = (me.toList.map (·.key)).map fun v => (match v with | .int _ n => n | _ => 0) := by rw [List.map_map]; rfl
      rw [e2, hkeys, List.map_map]
      exact List.map_id' ks
    rw [this]
  · show (List.foldr DataW.insert [] _).length = _
    rw [(foldr_perm _).length_eq, List.length_map, Array.length_toList, hl]
theorem keys_sound {P : Program} {f K1 : FuncId} {k : TypeId} (hk : P.underlying k = some (.int .i64)) (hcall : ∀ args w, (callFunc f args).run P w = .ok (.enter f args) w)
    (h : ∀ (Bm b nn : Nat) (D0 : DataW Unit) (w : World), Bm < w.heap.size → w.cell? ⟨Bm, 0, none⟩ = some (.map (some b)) → w.ownsMap P k anyR b nn D0 → Maps.size D0 ≤ 1000 → Calls P f #[.func (.func K1) #[] #[.pointer (some ⟨Bm, 0, none⟩)]] w fun e w' => ∃ (v : Value) (ss : List Int), e = .returned v ∧ ss.Perm (intKeys D0) ∧
      w'.ownsRow w.heap.size k 1 v ss.length ((ss.mergeSort (fun x y => decide (x ≤ y))).map encZ) ∧ Below w.heap.size w w') : ESound P f (keysE K1) := by
  refine ⟨hcall, fun X o al vs q g hT hlen hrel hE => ?_⟩
  unfold keysE at hE
  split at hE
  · rename_i gf b
    obtain ⟨hg, hF⟩ := chk_iff.1 hE
    clear hE
    obtain rfl := Nat.eq_of_beq_eq_true hg
    split at hF
    · rename_i m hob
      have hv := hrel 0 (by simp)
      obtain ⟨fv, cv, ev, s1, s2, r1, r2⟩ : ∃ fv cv : Array Value, vs.getD 0 undef = .func (.func gf) fv cv ∧ fv.size = 0 ∧ cv.size = 1 ∧ True ∧ VRel X (.rf b 0) (cv.getD 0 undef) := by
        generalize vs.getD 0 undef = u at hv
        cases hv with
        | fn h1 h2 r1 r2 => exact ⟨_, _, rfl, h1, h2, trivial, r2 0 (by simp)⟩
      have ec : cv = #[.pointer (some ⟨X.b b, 0, none⟩)] := by
        refine arr1 s2 ?_
        generalize cv.getD 0 undef = u at r2
        cases r2
        rfl
      have ef := arr0 s1
      subst ec ef
      have := arr1 (by simpa using hlen) ev
      subst this
      obtain ⟨zb, arr, T, hb, hsz, hcell⟩ := g.rel b _ hob
      have hmv := hcell 0 (by simp)
      simp only [List.getElem_cons_zero] at hmv
      have hmv : arr.getD 0 undef = .map (some (X.b m)) := (inv_mp hmv).1
      have hcl : X.w.cell? ⟨X.b b, 0, none⟩ = some (.map (some (X.b m))) := by
        have hs : 0 < arr.size := by rw [hsz]; simp
        rw [cell_of_heap hb hs, hmv]
      refine Classical.byContradiction fun hne => ?_
      have fin : ∀ (ks : List Int) (me : Array MapEntry) (clock : Nat), okI ks = true → ks.length ≤ 1000 → q (.d (.sl (intsD (sortI ks)))) o none → X.w.heap[X.b m]? = some (.map me clock) → me.size = ks.length → (∀ (j : Nat) (h : j < me.size), me[j].born < clock) →
          (∀ (j l : Nat) (hj : j < me.size) (hl : l < me.size), me[j].born = me[l].born → j = l) → (∀ (j : Nat) (h : j < me.size) (h' : j < ks.length), me[j].key = .int .i64 ks[j]) → False := fun ks me clock hok h1000 hq hme hms hb1 hb2 hb3 => by
        refine hne ?_
        obtain ⟨D0, own, hperm, hsize⟩ := owns_keys hk hme hb1 hb2 hms hb3 hok h1000
        refine (h (X.b b) (X.b m) me.size D0 X.w (Array.getElem?_eq_some_iff.1 hb).1 hcl own (by omega)).mono ?_
        rintro e w' ⟨v, ss, rfl, hS, hrow, hbl⟩
        have hp : ss.Perm ks := hS.trans hperm
        rw [merge_eq hp, hp.length_eq] at hrow
        refine ⟨v, .d (.sl (intsD (sortI ks))), o, none, { X with w := w' }, rfl, hq, rfl, grel_below g hbl, ?_, stepTo_below hbl, ghok_refl _⟩
        have hsl : (sortI ks).length = ks.length := (sortI_perm ks).length_eq
        obtain ⟨_, ⟨rfl, hz⟩ | ⟨gb, cap, cur, rfl, hbase, hgb, r1, r2, r3, r4⟩⟩ := hrow
        · have : sortI ks = [] := List.eq_nil_of_length_eq_zero (by omega)
          rw [this]
          exact .d .nil
        · have hln : (intsD (sortI ks)).length = ks.length := by simp [intsD, hsl]
          rw [← hln]
          refine .d (.sl 1 (by omega) (fun i _ => .int .i64 ((sortI ks).getD i 0)) (by rw [hln]; unfold LIM; omega) (by rw [hln]; exact r1) (fun _ ho => ?_) (fun i hi => by simp [intsD]) (fun i j hi hj => ?_) (fun i hi j hj => ?_))
          · have : gb < X.w.heap.size := ho.elim g.lt' (g.ext1 gb)
            omega
          · obtain rfl : j = 0 := by omega
            rw [hln] at hi
            rw [Nat.mul_one] at r3 r4
            have hi2 : i < cur.size := by omega
            rw [show 0 + (i * 1 + 0) = i by omega, cell_of_heap hgb hi2]
            have e1 : (cur.toList.take ks.length)[i]? = ((sortI ks).map encZ)[i]? := by rw [r4]
            rw [List.getElem?_take_of_lt hi, List.getElem?_map] at e1
            have e2 : cur[i]? = some (encZ ((sortI ks)[i]'(by omega))) := by
              rw [← Array.getElem?_toList, e1, List.getElem?_eq_getElem (by omega)]; rfl
            rw [Array.getD_eq_getD_getElem?, e2, List.getD_eq_getElem?_getD, List.getElem?_eq_getElem (by omega)]
            rfl
          · have hj : j = 0 := by simp [intsD] at hj; omega
            subst hj
            simp only [intsD, List.getElem_map, List.getElem_cons_zero]
            have hi' : i < (sortI ks).length := by simpa [intsD] using hi
            rw [List.getD_eq_getElem?_getD, List.getElem?_eq_getElem hi']
            exact .v rfl
      split at hF
      · rename_i kk ents hom
        split at hF
        · rename_i ks hks
          obtain ⟨hc, hq⟩ := chk_iff.1 hF
          simp only [Bool.and_eq_true] at hc
          obtain ⟨zm, hkd, me, clock, hme, hms, hb1, hb2, hb3⟩ := g.rel m _ hom
          obtain ⟨kl, kg⟩ := keysI_get hks
          exact fin ks me clock hc.1 (Nat.le_of_ble_eq_true hc.2) hq hme (by omega) hb1 hb2 fun j hj hj' => by
            have := (hb3 j (by omega) hj).1
            rw [kg j (by omega) hj'] at this
            exact this
        · exact hF.elim
      · rename_i R hom
        split at hF
        · rename_i f hft
          obtain ⟨hids, hq⟩ := hF
          obtain ⟨_, _, ⟨me, clock, hme, hms, hb1, hb2, hb3⟩, _⟩ := fam_at g hom hft
          have hl : (keysF f.l).length = f.l.length := by simp [keysF]
          have hs : sortI (keysF f.l) = keysF f.l := sorted_eq (sortI_perm _) (sortI_sorted _) (hids.ord.imp fun h => Int.le_of_lt h)
          refine fin (keysF f.l) me clock (okI_mk (fun x hx => ?_) (hids.ord.imp fun h => Int.ne_of_lt h)) (by rw [hl]; exact hids.len) (by rw [hs]; exact hq) hme (by omega) hb1 hb2 fun j hj hj' => ?_
          · obtain ⟨e, he, rfl⟩ := List.mem_map.1 hx
            obtain ⟨n, e1, e2⟩ := hids.key e he
            rw [e1]; exact e2
          · have hj2 : j < f.l.length := by omega
            obtain ⟨n, e1, _⟩ := hids.key f.l[j] (List.getElem_mem hj2)
            have := (hb3 j hj hj2).1
            rw [e1] at this
            have e2 : (keysF f.l)[j] = n := by simp [keysF, e1, keyI]
            rw [e2]
            exact this
        · exact hF.elim
      · exact hF.elim
    · exact hF.elim
  · exact hE.elim
end Go.AM
