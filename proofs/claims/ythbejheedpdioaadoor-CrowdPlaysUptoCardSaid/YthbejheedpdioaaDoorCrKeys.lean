import Derived.Test.YthbejheedpdioaaDoorAmUnr
import Derived.Test.YthbejheedpdioaaDoorAmLib
import Derived.Test.YthbejheedpdioaaDoorAmTypes
import Derived.Shelf.SlIter.Nil
import Derived.StringKeys
import Derived.Maps.OwnSet
set_option linter.unusedSimpArgs false
set_option linter.unusedVariables false
namespace Go.AM
open Go Go.RowKit Go.Maps Go.Sort Go.ChangeMaps Go.MapKept
open Go.Proofs (encStr)
structure KsOk (kl : List Key) : Prop where
  key : ∀ k ∈ kl, ∃ u : ByteArray, k = .s u ∧ u.size ≤ LIM
  nd : kl.Nodup
  len : kl.length ≤ 1000
structure SortB (ks : List ByteArray) (kl : List Key) : Prop where
  perm : (ks.map Key.s).Perm kl
  ord : ks.Pairwise fun a b => a.data.toList ≤ b.data.toList
def keyS : Key → ByteArray
  | .s u => u
  | _ => ⟨#[]⟩
def keysS (gU gD : FuncId) : Ent := fun al o q => match al with
  | [.fn (.func g) [] [.rf b 0]] => match o[b]? with
    | some (.box [.mp m]) => chk (Nat.beq g gU) (match o[m]? with
      | some (.bun R) => match R.tag with
        | some f => KsOk (f.l.map (·.1)) ∧ ∀ ks, SortB ks (f.l.map (·.1)) → q (mkSS ks) o none
        | none => False
      | _ => False)
    | some (.box [.d (.v (.map (some c)))]) => chk (Nat.beq g gD) (match findF o 0 with
      | some (_, f) => match f.sh with
        | .map _ => ∃ r, recF c f.l = some r ∧ KsOk (r.m.map (·.1)) ∧ ∀ ks, SortB ks (r.m.map (·.1)) → q (mkSS ks) o none
        | .box _ => False
      | none => False)
    | some (.box [.d (.v (.map none))]) => chk (Nat.beq g gD) (q (mkSS []) o none)
    | _ => False
  | _ => False
theorem insert_perm {H : Type} (x : Lit × DataW H) : ∀ l, (DataW.insert x l).Perm (x :: l)
  | [] => .refl _
  | y :: l => by
    unfold DataW.insert
    split
    · exact .refl _
    · exact ((insert_perm x l).cons y).trans (.swap _ _ _)
theorem foldr_perm {H : Type} : ∀ l : List (Lit × DataW H), (l.foldr DataW.insert []).Perm l
  | [] => .refl _
  | x :: l => (insert_perm x _).trans ((foldr_perm l).cons x)
def anyR : Value → Option (DataW Unit × List MemPlace) := fun _ => some (.nil, [])
theorem owns_keysS {P : Program} {k : TypeId} (hk : P.underlying k = some .string) {w : World} {b : Nat} {me : Array MapEntry} {clock : Nat} {kl : List Key} (hb : w.heap[b]? = some (.map me clock)) (h1 : ∀ (j : Nat) (h : j < me.size), me[j].born < clock)
    (h2 : ∀ (j l : Nat) (hj : j < me.size) (hl : l < me.size), me[j].born = me[l].born → j = l) (hl : me.size = kl.length) (h3 : ∀ (j : Nat) (h : j < me.size) (h' : j < kl.length), KRel kl[j] me[j].key) (hok : KsOk kl) :
    ∃ D0, w.ownsMap P k anyR b me.size D0 ∧ (strKeys D0).Perm (kl.map fun k => (keyS k).data.toList) ∧ Maps.size D0 = kl.length := by
  have hkeys : me.toList.map (·.key) = kl.map fun k => Value.string (keyS k) := by
    apply List.ext_getElem
    · simp [hl]
    · intro j hj hj'
      simp only [List.length_map, Array.length_toList] at hj
      simp only [List.getElem_map, Array.getElem_toList]
      have h' : j < kl.length := by omega
      have hr := h3 j hj h'
      obtain ⟨u, e, _⟩ := hok.key _ (List.getElem_mem h')
      rw [e] at hr ⊢
      exact hr
  have hwf : ∀ x ∈ me.toList, ∃ u : ByteArray, u.size ≤ maxLen ∧ x.key = .string u := fun x hx => by
    have : x.key ∈ me.toList.map (·.key) := List.mem_map_of_mem hx
    rw [hkeys] at this
    obtain ⟨n, hn, e⟩ := List.mem_map.1 this
    obtain ⟨u, rfl, hu⟩ := hok.key n hn
    exact ⟨u, by unfold LIM at hu; unfold maxLen; omega, e.symm⟩
  have fit : WideElems.Fit P k anyR me clock := by
    refine ⟨by rw [hl]; have := hok.len; unfold maxLen; omega, ⟨fun x hx => ?_, ?_, ?_⟩, fun x hx => ?_⟩
    · obtain ⟨j, hj, rfl⟩ := List.getElem_of_mem hx
      simp only [Array.length_toList] at hj
      simpa using h1 j hj
    · unfold List.Nodup
      rw [List.pairwise_iff_getElem]
      intro i j hi hj hij e
      simp only [List.length_map, Array.length_toList] at hi hj
      simp only [List.getElem_map, Array.getElem_toList] at e
      have := h2 i j hi hj e
      omega
    · rw [hkeys]
      refine List.Pairwise.map _ (R := fun a b : Key => a ∈ kl ∧ b ∈ kl ∧ a ≠ b) (fun a b ⟨ha, hb, h⟩ e => h ?_) (List.Pairwise.imp_of_mem (R := fun a b : Key => a ≠ b) (fun ha hb h => ⟨ha, hb, h⟩) hok.nd)
      obtain ⟨u, rfl, _⟩ := hok.key a ha
      obtain ⟨v, rfl, _⟩ := hok.key b hb
      have : u = v := by simpa [keyS] using e
      rw [this]
    · obtain ⟨u, hu, e⟩ := hwf x hx
      exact ⟨_, by unfold WideElems.rd; rw [e, WideMaps.keyOf_string_mk hk hu]; rfl⟩
  have own := World.ownsMap_of_fit (R := anyR) hb fit (fun x _ z h => h)
  refine ⟨_, own, ?_, ?_⟩
  · show (List.map _ (List.foldr DataW.insert [] _)).Perm _
    refine ((foldr_perm _).map _).trans ?_
    rw [List.map_map]
    have : (me.toList.map ((fun p : Lit × DataW Unit => strOf p.1) ∘ WideElems.rg P k anyR)) = kl.map fun k => (keyS k).data.toList := by
      have e : ∀ x ∈ me.toList, ((fun p : Lit × DataW Unit => strOf p.1) ∘ WideElems.rg P k anyR) x = (match x.key with | .string u => u.data.toList | _ => []) := fun x hx => by
        obtain ⟨u, hu, e⟩ := hwf x hx
        simp only [Function.comp, WideElems.rg, WideElems.rd, e, WideMaps.keyOf_string_mk hk hu]
        rfl
      rw [List.map_congr_left e]
      have e2 : (me.toList.map fun x => (match x.key with | .string u => u.data.toList | _ => [])) = (me.toList.map (·.key)).map fun v => (match v with | .string u => u.data.toList | _ => []) := by rw [List.map_map]; rfl
      rw [e2, hkeys, List.map_map]
      rfl
    rw [this]
  · show (List.foldr DataW.insert [] _).length = _
    rw [(foldr_perm _).length_eq, List.length_map, Array.length_toList, hl]
abbrev toBA (l : List UInt8) : ByteArray := ⟨l.toArray⟩
theorem row_strs {X : Cx} {o : List Ob} (g : GRel X o) {w' : World} (hbl : Below X.w.heap.size X.w w') {k : TypeId} {v : Value} {tt : List (List UInt8)} (hrow : w'.ownsRow X.w.heap.size k 1 v tt.length (tt.map encStr)) (ht : ∀ t ∈ tt, t.length ≤ LIM) (hn : tt.length ≤ 1000) :
    VRel { X with w := w' } (mkSS (tt.map toBA)) v := by
  unfold mkSS
  obtain ⟨_, ⟨rfl, hz⟩ | ⟨gb, cap, cur, rfl, hbase, hgb, r1, r2, r3, r4⟩⟩ := hrow
  · have : tt = [] := List.eq_nil_of_length_eq_zero (by omega)
    rw [this]
    exact .d .nil
  · have hln : (strsD (tt.map toBA)).length = tt.length := by simp [strsD]
    rw [← hln]
    refine .d (.sl 1 (by omega) (fun i _ => .string ((tt.map toBA).getD i ⟨#[]⟩)) (by rw [hln]; unfold LIM; omega) (by rw [hln]; exact r1) (fun _ ho => ?_) (fun i hi => by simp [strsD]) (fun i j hi hj => ?_) (fun i hi j hj => ?_))
    · have : gb < X.w.heap.size := ho.elim g.lt' (g.ext1 gb)
      omega
    · obtain rfl : j = 0 := by omega
      rw [hln] at hi
      rw [Nat.mul_one] at r3 r4
      have hi2 : i < cur.size := by omega
      rw [show 0 + (i * 1 + 0) = i by omega, cell_of_heap hgb hi2]
      have e1 : (cur.toList.take tt.length)[i]? = (tt.map encStr)[i]? := by rw [r4]
      rw [List.getElem?_take_of_lt hi, List.getElem?_map] at e1
      have e2 : cur[i]? = some (encStr (tt[i]'(by omega))) := by
        rw [← Array.getElem?_toList, e1, List.getElem?_eq_getElem (by omega)]; rfl
      rw [Array.getD_eq_getD_getElem?, e2, List.getD_eq_getElem?_getD, List.getElem?_map, List.getElem?_eq_getElem (by omega)]
      rfl
    · have hj : j = 0 := by simp [strsD] at hj; omega
      subst hj
      have hi' : i < tt.length := by simpa [strsD] using hi
      have e3 : (strsD (tt.map toBA))[i][0]'(by simpa using hj) = .v (.string (toBA tt[i])) := by simp [strsD]
      rw [e3, List.getD_eq_getElem?_getD, List.getElem?_map, List.getElem?_eq_getElem hi']
      refine .v ?_
      show decide ((toBA tt[i]).size ≤ LIM) = true
      have := ht _ (List.getElem_mem hi')
      simpa [ByteArray.size] using this
def KeysPost (P : Program) (k : TypeId) (S : List (List UInt8) → Prop) (w : World) : Ending → World → Prop := fun e w' => ∃ (v : Value) (ss : List (List UInt8)), e = .returned v ∧ S ss ∧
  w'.ownsRow w.heap.size k 1 v ss.length ((ss.mergeSort (fun x y => decide (x ≤ y))).map encStr) ∧ Below w.heap.size w w'
theorem keysS_sound {P : Program} {f gU gD : FuncId} {k : TypeId} (hk : P.underlying k = some .string) (hcall : ∀ args w, (callFunc f args).run P w = .ok (.enter f args) w)
    (hU : ∀ (Bm b nn : Nat) (D0 : DataW Unit) (w : World), Bm < w.heap.size → w.cell? ⟨Bm, 0, none⟩ = some (.map (some b)) → w.ownsMap P k anyR b nn D0 → Maps.size D0 ≤ 1000 → Calls P f #[.func (.func gU) #[] #[.pointer (some ⟨Bm, 0, none⟩)]] w (KeysPost P k (fun ss => ss.Perm (strKeys D0)) w))
    (hD : ∀ (Bm b nn : Nat) (D0 : DataW Unit) (w : World), Bm < w.heap.size → w.cell? ⟨Bm, 0, none⟩ = some (.map (some b)) → w.ownsMap P k anyR b nn D0 → Maps.size D0 ≤ 1000 → Calls P f #[.func (.func gD) #[] #[.pointer (some ⟨Bm, 0, none⟩)]] w (KeysPost P k (fun ss => ss.Perm (strKeys D0)) w))
    (hN : ∀ (Bm : Nat) (w : World), Bm < w.heap.size → w.cell? ⟨Bm, 0, none⟩ = some (.map none) → Calls P f #[.func (.func gD) #[] #[.pointer (some ⟨Bm, 0, none⟩)]] w (KeysPost P k (fun ss => ss = []) w)) : ESound P f (keysS gU gD) := by
  refine ⟨hcall, fun X o al vs q g hT hlen hrel hE => ?_⟩
  unfold keysS at hE
  split at hE
  · rename_i gf b
    have hv := hrel 0 (by simp)
    obtain ⟨fv, cv, ev, s1, s2, r1, r2⟩ : ∃ fv cv : Array Value, vs.getD 0 undef = .func (.func gf) fv cv ∧ fv.size = 0 ∧ cv.size = 1 ∧ True ∧ VRel X (.rf b 0) (cv.getD 0 undef) := by
      generalize vs.getD 0 undef = u at hv
      cases hv with
      | fn h1 h2 r1 r2 => exact ⟨_, _, rfl, h1, h2, trivial, r2 0 (by simp)⟩
    have ec : cv = #[.pointer (some ⟨X.b b, 0, none⟩)] := by
      refine arr1 s2 ?_
      generalize cv.getD 0 undef = u at r2
      cases r2
      rfl
    have ef := arr0 s1
    subst ec ef
    have := arr1 (by simpa using hlen) ev
    subst this
    have box : ∀ x, o[b]? = some (.box [x]) → X.b b < X.w.heap.size ∧ ∃ u, VRel X x u ∧ X.w.cell? ⟨X.b b, 0, none⟩ = some u := fun x hob => by
      obtain ⟨zb, arr, T, hb, hsz, hcell⟩ := g.rel b _ hob
      have hs : 0 < arr.size := by rw [hsz]; simp
      exact ⟨(Array.getElem?_eq_some_iff.1 hb).1, _, hcell 0 (by simp), cell_of_heap hb hs⟩
    have fin : ∀ (kl : List Key) (w' : World) (v : Value) (ss : List (List UInt8)), KsOk kl → ss.Perm (kl.map fun k => (keyS k).data.toList) → w'.ownsRow X.w.heap.size k 1 v ss.length ((ss.mergeSort (fun x y => decide (x ≤ y))).map encStr) → Below X.w.heap.size X.w w' →
        (∀ ks, SortB ks kl → q (mkSS ks) o none) → ∃ v' av o' kl X', Ending.returned v = .returned v' ∧ q av o' kl ∧ X'.w = w' ∧ GRel X' o' ∧ VRel X' av v' ∧ StepTo X X' kl ∧ GhOk o o' kl ∧ Below X.w.heap.size X.w w' := fun kl w' v ss hok hp hrow hbl hq => by
      have hm := (List.mergeSort_perm ss (fun x y => decide (x ≤ y))).trans hp
      have hl : ss.length = (ss.mergeSort (fun x y => decide (x ≤ y))).length := (List.mergeSort_perm ss _).length_eq.symm
      have hso := List.pairwise_mergeSort (le := fun x y : List UInt8 => decide (x ≤ y)) (fun a b c h1 h2 => by simp only [decide_eq_true_eq] at *; exact List.le_trans h1 h2) (fun a b => by simp only [Bool.or_eq_true, decide_eq_true_eq]; exact List.le_total a b) ss
      rw [hl] at hrow
      generalize ss.mergeSort (fun x y => decide (x ≤ y)) = tt at hm hso hrow
      refine ⟨v, mkSS (tt.map toBA), o, none, { X with w := w' }, rfl, hq _ ⟨?_, ?_⟩, rfl, grel_below g hbl, row_strs g hbl hrow (fun t ht => ?_) ?_, stepTo_below hbl, ghok_refl _, hbl⟩
      · rw [List.map_map]
        refine (hm.map _).trans ?_
        rw [List.map_map]
        have : kl.map ((Key.s ∘ toBA) ∘ fun k => (keyS k).data.toList) = kl.map id := List.map_congr_left fun k hk => by
          obtain ⟨u, rfl, _⟩ := hok.key k hk
          rfl
        rw [this, List.map_id]
      · refine List.Pairwise.map _ (fun a b h => ?_) hso
        exact of_decide_eq_true h
      · obtain ⟨k, hk, rfl⟩ := List.mem_map.1 (hm.mem_iff.1 ht)
        obtain ⟨u, rfl, hu⟩ := hok.key k hk
        show u.data.toList.length ≤ LIM
        rw [Array.length_toList]
        exact hu
      · have := hm.length_eq
        rw [List.length_map] at this
        have := hok.len
        omega
    split at hE
    · rename_i m hob
      obtain ⟨hlt, u, hu, hcl⟩ := box _ hob
      obtain ⟨rfl, _⟩ := inv_mp hu
      obtain ⟨hg, hF⟩ := chk_iff.1 hE
      obtain rfl := Nat.eq_of_beq_eq_true hg
      split at hF
      · rename_i R hom
        split at hF
        · rename_i f hft
          obtain ⟨hok, hq⟩ := hF
          obtain ⟨_, _, ⟨me, clock, hme, hms, hb1, hb2, hb3⟩, _⟩ := fam_at g hom hft
          obtain ⟨D0, own, hperm, hsize⟩ := owns_keysS hk hme hb1 hb2 (kl := f.l.map (·.1)) (by simpa using hms) (fun j hj hj' => by
            rw [List.getElem_map]; exact (hb3 j hj (by simpa using hj')).1) hok
          refine (hU (X.b b) (X.b m) me.size D0 X.w hlt hcl own (by rw [hsize]; exact hok.len)).mono ?_
          rintro e w' ⟨v, ss, rfl, hS, hrow, hbl⟩
          obtain ⟨v', av, o', kl, X', e1, h2, h3, h4, h5, h6, h7, _⟩ := fin _ w' v ss hok (hS.trans hperm) hrow hbl hq
          exact ⟨v', av, o', kl, X', e1, h2, h3, h4, h5, h6, h7⟩
        · exact hF.elim
      · exact hF.elim
    · rename_i c hob
      obtain ⟨hlt, u, hu, hcl⟩ := box _ hob
      obtain ⟨rfl, _⟩ := inv_v hu
      obtain ⟨hg, hF⟩ := chk_iff.1 hE
      obtain rfl := Nat.eq_of_beq_eq_true hg
      split at hF
      · rename_i i f hff
        split at hF
        · rename_i kk hsh
          obtain ⟨r, hr, hok, hq⟩ := hF
          obtain ⟨R, hi, ht'⟩ := findF_at hff
          obtain ⟨mm, hmm, rfl, rfl⟩ := recF_mem hr
          obtain ⟨_, _, _, _, hmem⟩ := fam_at g hi ht'
          obtain ⟨_, _, hmp⟩ := hmem mm hmm
          rw [hsh] at hmp
          obtain ⟨_, me, clock, hme, hms, hb1, hb2, hb3⟩ := hmp
          obtain ⟨D0, own, hperm, hsize⟩ := owns_keysS hk hme hb1 hb2 (kl := mm.2.2.m.map (·.1)) (by simpa using hms) (fun j hj hj' => by
            rw [List.getElem_map]; exact (hb3 j hj (by simpa using hj')).1) hok
          refine (hD (X.b b) mm.2.1 me.size D0 X.w hlt hcl own (by rw [hsize]; exact hok.len)).mono ?_
          rintro e w' ⟨v, ss, rfl, hS, hrow, hbl⟩
          obtain ⟨v', av, o', kl, X', e1, h2, h3, h4, h5, h6, h7, _⟩ := fin _ w' v ss hok (hS.trans hperm) hrow hbl hq
          exact ⟨v', av, o', kl, X', e1, h2, h3, h4, h5, h6, h7⟩
        · exact hF.elim
      · exact hF.elim
    · rename_i hob
      obtain ⟨hlt, u, hu, hcl⟩ := box _ hob
      obtain ⟨rfl, _⟩ := inv_v hu
      obtain ⟨hg, hF⟩ := chk_iff.1 hE
      obtain rfl := Nat.eq_of_beq_eq_true hg
      refine (hN (X.b b) X.w hlt hcl).mono ?_
      rintro e w' ⟨v, ss, rfl, rfl, hrow, hbl⟩
      obtain ⟨v', av, o', kl, X', e1, h2, h3, h4, h5, h6, h7, _⟩ := fin [] w' v [] ⟨by simp, by simp, by simp⟩ (.refl _) hrow hbl fun ks hks => by
        have : ks = [] := by have := hks.perm.length_eq; simpa using this
        rw [this]; exact hF
      exact ⟨v', av, o', kl, X', e1, h2, h3, h4, h5, h6, h7⟩
    · exact hE.elim
  · exact hE.elim
end Go.AM
