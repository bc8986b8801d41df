import Derived.Test.YtchpfeblinnoiaaGreatDoorAmFrame
set_option linter.unusedSimpArgs false
set_option linter.unusedVariables false
namespace Go.AM
open Go.RowKit
def forceN : Nat → (Nat → Prop) → Prop
  | 0, k => k 0
  | n + 1, k => k (n + 1)
def forceI : Int → (Int → Prop) → Prop
  | .ofNat n, k => forceN n fun m => k (.ofNat m)
  | .negSucc n, k => forceN n fun m => k (.negSucc m)
def forceV : Value → (Value → Prop) → Prop
  | .int i n, k => forceI n fun m => k (.int i m)
  | .bool true, k => k (.bool true)
  | .bool false, k => k (.bool false)
  | v, k => k v
def forceD : D → (D → Prop) → Prop
  | .v x, k => forceV x fun y => k (.v y)
  | d, k => k d
def forceDs : List D → (List D → Prop) → Prop
  | [], k => k []
  | x :: l, k => forceD x fun y => forceDs l fun m => k (y :: m)
def forceDss : List (List D) → (List (List D) → Prop) → Prop
  | [], k => k []
  | x :: l, k => forceDs x fun y => forceDss l fun m => k (y :: m)
mutual
def forceA : AV → (AV → Prop) → Prop
  | .d x, k => forceD x fun y => k (.d y)
  | .nl, k => k .nl
  | .vw r n, k => forceN r fun r => forceN n fun n => k (.vw r n)
  | .rf i o, k => forceN i fun i => forceN o fun o => k (.rf i o)
  | .rp r s i o, k => forceN r fun r => forceN s fun s => forceN i fun i => forceN o fun o => k (.rp r s i o)
  | .ep c, k => k (.ep c)
  | .mp i, k => forceN i fun i => k (.mp i)
  | .ag cs, k => forceL cs fun cs => k (.ag cs)
  | .tp cs, k => forceL cs fun cs => k (.tp cs)
  | .fn f fs cs, k => forceL fs fun fs => forceL cs fun cs => k (.fn f fs cs)
  | .opt b x, k => forceA x fun x => k (.opt b x)
  | .jk, k => k .jk
def forceL : List AV → (List AV → Prop) → Prop
  | [], k => k []
  | x :: l, k => forceA x fun y => forceL l fun m => k (y :: m)
end
def forceEs : List (Key × AV) → (List (Key × AV) → Prop) → Prop
  | [], k => k []
  | (a, x) :: l, k => forceA x fun y => forceEs l fun m => k ((a, y) :: m)
def forceO : Ob → (Ob → Prop) → Prop
  | .box cs, k => forceL cs fun cs => k (.box cs)
  | .row sz es, k => forceDss es fun es => k (.row sz es)
  | .map kk es, k => forceEs es fun es => k (.map kk es)
  | .gone, k => k .gone
  | .gh cs, k => k (.gh cs)
  | .pow es, k => forceL es fun es => k (.pow es)
  | .bun R, k => k (.bun R)
def forceOs : List Ob → (List Ob → Prop) → Prop
  | [], k => k []
  | x :: l, k => forceO x fun y => forceOs l fun m => k (y :: m)
def forceS (s : S) (k : S → Prop) : Prop := forceL s.t fun t => forceOs s.o fun o => k ⟨t, o⟩
theorem forceN_eq : ∀ (n : Nat) (k : Nat → Prop), forceN n k = k n
  | 0, k => rfl
  | n + 1, k => rfl
theorem forceI_eq : ∀ (n : Int) (k : Int → Prop), forceI n k = k n
  | .ofNat n, k => forceN_eq n _
  | .negSucc n, k => forceN_eq n _
theorem forceV_eq (v : Value) (k : Value → Prop) : forceV v k = k v := by
  unfold forceV
  split
  · exact forceI_eq _ _
  · rfl
  · rfl
  · rfl
theorem forceD_eq (d : D) (k : D → Prop) : forceD d k = k d := by
  unfold forceD
  split
  · exact forceV_eq _ _
  · rfl
theorem forceDs_eq : ∀ (l : List D) (k : List D → Prop), forceDs l k = k l
  | [], k => rfl
  | x :: l, k => by rw [forceDs, forceD_eq, forceDs_eq l]
theorem forceDss_eq : ∀ (l : List (List D)) (k : List (List D) → Prop), forceDss l k = k l
  | [], k => rfl
  | x :: l, k => by rw [forceDss, forceDs_eq, forceDss_eq l]
mutual
theorem forceA_eq : ∀ (x : AV) (k : AV → Prop), forceA x k = k x
  | .d x, k => by rw [forceA, forceD_eq]
  | .nl, k => by rw [forceA]
  | .vw r n, k => by rw [forceA, forceN_eq, forceN_eq]
  | .rf i o, k => by rw [forceA, forceN_eq, forceN_eq]
  | .rp r s i o, k => by rw [forceA, forceN_eq, forceN_eq, forceN_eq, forceN_eq]
  | .ep c, k => by rw [forceA]
  | .mp i, k => by rw [forceA, forceN_eq]
  | .ag cs, k => by rw [forceA, forceL_eq cs]
  | .tp cs, k => by rw [forceA, forceL_eq cs]
  | .fn f fs cs, k => by rw [forceA, forceL_eq fs, forceL_eq cs]
  | .opt b x, k => by rw [forceA, forceA_eq x]
  | .jk, k => by rw [forceA]
theorem forceL_eq : ∀ (l : List AV) (k : List AV → Prop), forceL l k = k l
  | [], k => by rw [forceL]
  | x :: l, k => by rw [forceL, forceA_eq x, forceL_eq l]
end
theorem forceEs_eq : ∀ (l : List (Key × AV)) (k : List (Key × AV) → Prop), forceEs l k = k l
  | [], k => rfl
  | (a, x) :: l, k => by rw [forceEs, forceA_eq, forceEs_eq l]
theorem forceO_eq (x : Ob) (k : Ob → Prop) : forceO x k = k x := by
  cases x
  · exact forceL_eq _ _
  · exact forceDss_eq _ _
  · exact forceEs_eq _ _
  · rfl
  · rfl
  · exact forceL_eq _ _
  · rfl
theorem forceOs_eq : ∀ (l : List Ob) (k : List Ob → Prop), forceOs l k = k l
  | [], k => rfl
  | x :: l, k => by rw [forceOs, forceO_eq, forceOs_eq l]
theorem forceS_eq (s : S) (k : S → Prop) : forceS s k = k s := by rw [forceS, forceL_eq, forceOs_eq]
def spineL {α : Type} : List α → (List α → Prop) → Prop
  | [], k => k []
  | x :: l, k => spineL l fun m => k (x :: m)
def headL {α : Type} : List α → (List α → Prop) → Prop
  | [], k => k []
  | x :: l, k => k (x :: l)
def spineLL {α : Type} : List (List α) → (List (List α) → Prop) → Prop
  | [], k => k []
  | x :: l, k => spineL x fun y => spineLL l fun m => k (y :: m)
def shallowO : Ob → (Ob → Prop) → Prop
  | .box cs, k => spineL cs fun cs => k (.box cs)
  | .row sz es, k => spineLL es fun es => k (.row sz es)
  | .map kk es, k => spineL es fun es => k (.map kk es)
  | .gone, k => k .gone
  | .gh cs, k => k (.gh cs)
  | .pow es, k => spineL es fun es => k (.pow es)
  | .bun R, k => k (.bun R)
def shallowOs : List Ob → (List Ob → Prop) → Prop
  | [], k => k []
  | x :: l, k => shallowO x fun y => shallowOs l fun m => k (y :: m)
theorem spineL_eq {α : Type} : ∀ (l : List α) (k : List α → Prop), spineL l k = k l
  | [], k => rfl
  | x :: l, k => by rw [spineL, spineL_eq l]
theorem headL_eq {α : Type} (l : List α) (k : List α → Prop) : headL l k = k l := by cases l <;> rfl
theorem spineLL_eq {α : Type} : ∀ (l : List (List α)) (k : List (List α) → Prop), spineLL l k = k l
  | [], k => rfl
  | x :: l, k => by rw [spineLL, spineL_eq, spineLL_eq l]
theorem shallowO_eq (x : Ob) (k : Ob → Prop) : shallowO x k = k x := by
  cases x
  · exact spineL_eq _ _
  · exact spineLL_eq _ _
  · exact spineL_eq _ _
  · rfl
  · rfl
  · exact spineL_eq _ _
  · rfl
theorem shallowOs_eq : ∀ (l : List Ob) (k : List Ob → Prop), shallowOs l k = k l
  | [], k => rfl
  | x :: l, k => by rw [shallowOs, shallowO_eq, shallowOs_eq l]
def turnsO : Op → Bool
  | .assign _ | .move _ | .pick .. | .load .. | .fieldAddr .. | .indexAddr .. | .binOp .. | .unOp .. | .lookup .. | .extract .. | .index .. | .convert .. | .field .. | .slice .. => false
  | .call c => match c.callee with | .builtin .len => false | _ => true
  | _ => true
def putF (op : Op) (dst : Option Tmp) (next : S → Prop) (av : AV) (s : S) : Prop := forceA av fun av => spineL (s.put dst av).t fun t => match turnsO op with
  | true => shallowOs s.o fun o => next ⟨t, o⟩
  | false => headL s.o fun o => next ⟨t, o⟩
theorem putF_eq (op : Op) (dst : Option Tmp) (next : S → Prop) (av : AV) (s : S) : putF op dst next av s = next (s.put dst av) := by
  have e : (s.put dst av).o = s.o := by cases dst <;> rfl
  unfold putF
  rw [forceA_eq, spineL_eq]
  split
  · rw [shallowOs_eq, ← e]
  · rw [headL_eq, ← e]
section
variable (K : TypeId → Option TK) (Γ : List (FuncId × En))
def aOpsF (ops : Array Oper) : List Oper → (S → Prop) → S → Prop
  | [], k, s => k s
  | o :: rest, k, s =>
    match o.guard with
    | none => aStep K Γ s o.op fun av s' => putF o.op o.dst (aOpsF ops rest k) av s'
    | some (j, want) =>
      match (ops[j]?).bind (·.dst) with
      | some d => match s.t.getD d .jk with
        | .d (.v (.bool b)) => bcase b
          (match want with | true => aStep K Γ (s.lit d true) o.op fun av s' => putF o.op o.dst (aOpsF ops rest k) av s' | false => aOpsF ops rest k ((s.lit d true).put o.dst (.tp [])))
          (match want with | false => aStep K Γ (s.lit d false) o.op fun av s' => putF o.op o.dst (aOpsF ops rest k) av s' | true => aOpsF ops rest k ((s.lit d false).put o.dst (.tp [])))
        | .tp [] => aOpsF ops rest k (s.put o.dst (.tp []))
        | _ => False
      | none => False
theorem aOpsF_eq (ops : Array Oper) : ∀ (l : List Oper) (k : S → Prop) (s : S), aOpsF K Γ ops l k s = aOps K Γ ops l k s
  | [], k, s => rfl
  | o :: rest, k, s => by
    have e : ∀ s', aOpsF K Γ ops rest k s' = aOps K Γ ops rest k s' := fun s' => aOpsF_eq ops rest k s'
    unfold aOpsF aOps
    simp only [putF_eq, e]
    rfl
end
section
variable (K : TypeId → Option TK) (Γ : List (FuncId × En)) (n : Nat)
def aUnr : Code → Kont → S → Prop
  | .skip, q, s => q .nor s
  | .region _ ops false, q, s => aOpsF K Γ ops ops.toList (q .nor) s
  | .region _ ops true, q, s => aOpen K Γ ops (fun s => forceS s (q .nor)) s
  | .seq x y, q, s => aUnr x (kSeq (aUnr y q) q) s
  | .cond c x y, q, s => match s.ev c with
    | .d (.v (.bool t)) => bcase t (aUnr x q (s.litO c true)) (aUnr y q (s.litO c false))
    | _ => False
  | .block id c, q, s => aUnr c (kBlk id q) s
  | .loop c, q, s => aLoopN (aUnr c) q n s
  | .exit i, q, s => q (.exit i) s
  | .ret, q, s => q .ret s
  | .scope c, q, s => aUnr c q s
  | .label _, q, s => q .nor s
  | _, _, _ => False
end
section
variable {P : Program} {K : TypeId → Option TK} {Γ : List (FuncId × En)} {w0 : World} {own0 : O0} {n : Nat}
theorem unr_sound (hm : P.follows .mixedOrders = true) (hK : KOk P K) (hΓ : GSound P Γ) : ∀ (c : Code) {X : Cx} {s : S} {a : Act} {q : Kont}, SRel w0 own0 X s a → aUnr K Γ n c q s → c.wp P (kQ w0 own0 q) a X.w
  | .skip, X, s, a, q, hs, h => wp_skip ⟨X, s, rfl, hs, h⟩
  | .region id ops false, X, s, a, q, hs, h => wp_region_list (ops_sound hK hΓ ops.toList hs (by rw [← aOpsF_eq]; exact h) fun X' s' a' hs' hk => ⟨X', s', rfl, hs', hk⟩)
  | .region id ops true, X, s, a, q, hs, h => by
    unfold aUnr at h
    simp only [forceS_eq] at h
    exact open_sound hm hK hΓ hs h
  | .seq x y, X, s, a, q, hs, h => by
    refine wp_seq (wp_mono (unr_sound hm hK hΓ x hs h) fun e a' w' hq => ?_)
    cases e with
    | normal =>
      obtain ⟨X', s', rfl, hs', hk⟩ := hq
      exact unr_sound hm hK hΓ y hs' hk
    | exit i => exact hq
    | ret => exact hq
    | goto l => exact hq.elim
    | panic ch => exact hq.elim
    | outgrown => exact hq.elim
  | .cond c x y, X, s, a, q, hs, h => by
    simp only [aUnr] at h
    split at h
    · rename_i t ht
      have et : a.eval c = .bool t := inv_bool (ht ▸ ev_sound hs c)
      refine wp_cond et ?_
      cases t with
      | true => exact unr_sound hm hK hΓ x hs (by have h := bcase_t h rfl; rwa [litO_self ht] at h)
      | false => exact unr_sound hm hK hΓ y hs (by have h := bcase_f h rfl; rwa [litO_self ht] at h)
    · exact h.elim
  | .block id c, X, s, a, q, hs, h => by
    refine wp_block (wp_mono (unr_sound hm hK hΓ c hs h) fun e a' w' hq => ?_)
    cases e with
    | normal => exact hq
    | exit i =>
      obtain ⟨X', s', rfl, hs', hk⟩ := hq
      simp only [Exit.inBlock]
      simp only [kBlk] at hk
      split
      · rename_i hi; rw [if_pos hi] at hk; exact ⟨X', s', rfl, hs', hk⟩
      · rename_i hi; rw [if_neg hi] at hk; exact ⟨X', s', rfl, hs', hk⟩
    | ret => exact hq
    | goto l => exact hq.elim
    | panic ch => exact hq.elim
    | outgrown => exact hq.elim
  | .loop c, X, s, a, q, hs, h => by
    refine wp_loop_ghost (fun n' a w => ∃ X s, X.w = w ∧ SRel w0 own0 X s a ∧ aLoopN (aUnr K Γ n c) q n' s) n ⟨X, _, rfl, hs, h⟩ ?_
    rintro n' a1 w1 ⟨X1, s1, rfl, hs2, h⟩
    cases n' with
    | zero => exact h.elim
    | succ n' =>
      refine wp_mono (unr_sound hm hK hΓ c hs2 h) fun e a' w' hq => ?_
      cases e with
      | normal =>
        obtain ⟨X', s', rfl, hs', h'⟩ := hq
        exact ⟨n', Nat.lt_succ_self n', X', s', rfl, hs', h'⟩
      | exit i => exact hq
      | ret => exact hq
      | goto l => exact hq.elim
      | panic ch => exact hq.elim
      | outgrown => exact hq.elim
  | .exit i, X, s, a, q, hs, h => wp_exit ⟨X, s, rfl, hs, h⟩
  | .ret, X, s, a, q, hs, h => wp_ret ⟨X, s, rfl, hs, h⟩
  | .scope c, X, s, a, q, hs, h => by
    refine wp_scope_straight (wp_mono (unr_sound hm hK hΓ c hs h) fun e a' w' hq => ?_)
    cases e <;> first | exact hq | exact hq.elim
  | .label l, X, s, a, q, hs, h => wp_label ⟨X, s, rfl, hs, h⟩
  | .rangeFunc _ _ _ _, X, s, a, q, hs, h => h.elim
  | .goto _, X, s, a, q, hs, h => h.elim
  | .refuse _, X, s, a, q, hs, h => h.elim
def BSound (P : Program) (c : Code) (B : Kont → S → Prop) : Prop := ∀ {w0 : World} {own0 : O0} {X : Cx} {s : S} {a : Act} {q : Kont}, SRel w0 own0 X s a → B q s → c.wp P (kQ w0 own0 q) a X.w
theorem unr_bsound (n : Nat) (hm : P.follows .mixedOrders = true) (hK : KOk P K) (hΓ : GSound P Γ) (c : Code) : BSound P c (aUnr K Γ n c) := fun hs h => unr_sound hm hK hΓ c hs h
theorem pure_gen {B : Kont → S → Prop} {f : FuncId} {fn : Func} {c : Code} {rs : List ResultVar} {E : List AV → (AV → Prop) → Prop} (hB : BSound P c B) (hK : KOk P K) (hf : P.funcs[f]? = some fn) (hb : fn.body = some c) (hrs : fn.results.toList = rs)
    (hcall : ∀ args w, (callFunc f args).run P w = .ok (.enter f args) w) (h : ∀ al q, E al q → B (kRet K rs q) ⟨al ++ List.replicate (fn.ntmps - al.length) .jk, []⟩) : PSound P f E := by
  refine ⟨hcall, fun ext w al vs q hext hT hlen hrel hE => ?_⟩
  refine calls_of_wp hf hb (wp_mono (hB (start_rel hext hT hlen hrel fn.ntmps) (h al q hE)) fun e a' w' hq => ?_)
  have fin : ∀ (x : AX), (∃ X s, X.w = w' ∧ SRel w ⟨fun _ => False, ext, fun _ => []⟩ X s a' ∧ kRet K rs q x s) → a'.defers = [] ∧ ∃ v, (results fn a'.tmps).run P w' = .ok v w' ∧ ∃ v_1 av, Ending.returned v = .returned v_1 ∧ q av ∧ VRel (Cx.bare ext w') av v_1 ∧ Below w.heap.size w w' := by
    rintro x ⟨X, s, rfl, hs, hk⟩
    refine ⟨hs.defers, ?_⟩
    have key : ∀ (hk : (match resL K s rs with | some l => (match (resAV l).pure s.o with | some r => q r | none => False) | none => False)), ∃ v, (results fn a'.tmps).run P X.w = .ok v X.w ∧ ∃ v_1 av, Ending.returned v = .returned v_1 ∧ q av ∧ VRel (Cx.bare ext X.w) av v_1 ∧ Below w.heap.size w X.w := by
      intro hk
      split at hk
      · rename_i l hl
        split at hk
        · rename_i r hr
          obtain ⟨v, h1, h2⟩ := results_sound (P := P) hrs hK hs hl
          have h3 := pure_ext hs.g h2 hr
          rw [hs.ext] at h3
          exact ⟨v, h1, v, r, rfl, hk, h3, ⟨hs.fr.os, hs.fr.tape, hs.fr.output, hs.fr.size, fun b hb => hs.fr.keep b hb (fun h => h)⟩⟩
        · exact hk.elim
      · exact hk.elim
    cases x with
    | nor => exact key hk
    | ret => exact key hk
    | exit i => exact hk.elim
  cases e with
  | normal => exact fin .nor hq
  | ret => exact fin .ret hq
  | exit i =>
    obtain ⟨X, s, _, _, hk⟩ := hq
    exact hk.elim
  | goto l => exact hq.elim
  | panic ch => exact hq.elim
  | outgrown => exact hq.elim
theorem det_gen {B : Kont → S → Prop} {f : FuncId} {fn : Func} {c : Code} {rs : List ResultVar} {F : List AV → Option (Prop × AV)} (hB : BSound P c B) (hK : KOk P K) (hf : P.funcs[f]? = some fn) (hb : fn.body = some c) (hrs : fn.results.toList = rs)
    (hcall : ∀ args w, (callFunc f args).run P w = .ok (.enter f args) w) (h : ∀ al p r (q : AV → Prop), F al = some (p, r) → p → q r → B (kRet K rs q) ⟨al ++ List.replicate (fn.ntmps - al.length) .jk, []⟩) : PSound P f (detE F) :=
  pure_gen hB hK hf hb hrs hcall fun al q hE => by
    unfold detE at hE
    split at hE
    · rename_i p r hF; exact h al p r q hF hE.1 hE.2
    · exact hE.elim
theorem trimI_ok : TrimOk fun q => q := fun q w0 own0 Y s a av v hs hv h =>
  ⟨av, s.o, Y, h, rfl, ⟨rfl, fun i hi => by
    have : i = 0 := by simpa using hi
    subst this
    exact hv, rfl, hs.g, hs.ext, hs.fr, hs.new, hs.gh, hs.tab⟩, hv⟩
theorem ref_gen (T : (AV → List Ob → Prop) → AV → List Ob → Prop) (hT0 : TrimOk T) {B : Kont → S → Prop} {f : FuncId} {fn : Func} {c : Code} {rs : List ResultVar} {E : List AV → List Ob → (AV → List Ob → Prop) → Prop} (hB : BSound P c B) (hK : KOk P K) (hf : P.funcs[f]? = some fn) (hb : fn.body = some c) (hrs : fn.results.toList = rs)
    (hcall : ∀ args w, (callFunc f args).run P w = .ok (.enter f args) w) (h : ∀ al o q, E al o q → B (kRetF K rs (T q)) ⟨al ++ List.replicate (fn.ntmps - al.length) .jk, o⟩) : RSound P f E := by
  refine ⟨hcall, fun X o gv al vs q g hgh hT hlen hrel hE => ?_⟩
  have hst : SRel X.w ⟨X.obj, X.ext, gv⟩ X ⟨al ++ List.replicate (fn.ntmps - al.length) .jk, o⟩ { tmps := vs ++ Array.replicate (fn.ntmps - vs.size) undef, defers := [] } :=
    ⟨by simp [hlen], fun i hi => by
      rw [List.getElem_append]
      split
      · rename_i hlt
        rw [getD_append_left (by omega)]
        exact hrel i hlt
      · simp only [List.getElem_replicate]; exact .jk, rfl, g, rfl, ⟨rfl, rfl, rfl, Nat.le_refl _, fun _ _ _ => rfl⟩, fun b hb => .inl hb, hgh, hT⟩
  refine calls_of_wp hf hb (wp_mono (hB (w0 := X.w) (own0 := ⟨X.obj, X.ext, gv⟩) hst (h al o q hE)) fun e a' w' hq => ?_)
  have key : ∀ (Y : Cx) (s : S), Y.w = w' → SRel X.w ⟨X.obj, X.ext, gv⟩ Y s a' → (match resL K s rs with | some l => T q (resAV l) s.o | none => False) →
      a'.defers = [] ∧ ∃ v, (results fn a'.tmps).run P w' = .ok v w' ∧ ∃ v_1 av o' X', Ending.returned v = .returned v_1 ∧ q av o' ∧ X'.w = w' ∧ GRel X' o' ∧ GhRel X' o' gv ∧ VRel X' av v_1 ∧ X'.ext = X.ext ∧ Fr X.w X.obj w' ∧ ∀ b, X'.obj b → X.obj b ∨ X.w.heap.size ≤ b := by
    rintro Y s rfl hs hk
    split at hk
    · rename_i rl hrl
      obtain ⟨v, h1, h2⟩ := results_sound (P := P) hrs hK hs hrl
      obtain ⟨av2, o2, Y', t1, t2, t3, t4⟩ := hT0 _ _ _ _ _ _ _ _ hs h2 hk
      exact ⟨hs.defers, v, h1, v, _, _, Y', rfl, t1, t2, t3.g, t3.gh, t4, t3.ext, hs.fr, t3.new⟩
    · exact hk.elim
  cases e with
  | normal => obtain ⟨Y, s, e1, e2, e3⟩ := hq; exact key Y s e1 e2 e3
  | ret => obtain ⟨Y, s, e1, e2, e3⟩ := hq; exact key Y s e1 e2 e3
  | exit i => obtain ⟨Y, s, _, _, hk⟩ := hq; exact hk.elim
  | goto l => exact hq.elim
  | panic ch => exact hq.elim
  | outgrown => exact hq.elim
theorem det_unr (n : Nat) {f : FuncId} {fn : Func} {c : Code} {rs : List ResultVar} {F : List AV → Option (Prop × AV)} (hm : P.follows .mixedOrders = true) (hK : KOk P K) (hΓ : GSound P Γ) (hf : P.funcs[f]? = some fn) (hb : fn.body = some c) (hrs : fn.results.toList = rs)
    (hcall : ∀ args w, (callFunc f args).run P w = .ok (.enter f args) w) (h : ∀ al p r (q : AV → Prop), F al = some (p, r) → p → q r → aUnr K Γ n c (kRet K rs q) ⟨al ++ List.replicate (fn.ntmps - al.length) .jk, []⟩) : PSound P f (detE F) :=
  det_gen (unr_bsound n hm hK hΓ c) hK hf hb hrs hcall h
theorem ref_unr {n : Nat} {f : FuncId} {fn : Func} {c : Code} {rs : List ResultVar} {E : List AV → List Ob → (AV → List Ob → Prop) → Prop} (hm : P.follows .mixedOrders = true) (hK : KOk P K) (hΓ : GSound P Γ) (hf : P.funcs[f]? = some fn) (hb : fn.body = some c) (hrs : fn.results.toList = rs)
    (hcall : ∀ args w, (callFunc f args).run P w = .ok (.enter f args) w) (h : ∀ al o q, E al o q → aUnr K Γ n c (kRetF K rs q) ⟨al ++ List.replicate (fn.ntmps - al.length) .jk, o⟩) : RSound P f E :=
  ref_gen (fun q => q) trimI_ok (unr_bsound n hm hK hΓ c) hK hf hb hrs hcall h
end
section
variable (K : TypeId → Option TK) (Γ : List (FuncId × En)) (n : Nat)
def aUnS : Code → Kont → S → Prop
  | .skip, q, s => q .nor s
  | .region _ ops false, q, s => aOps K Γ ops ops.toList (q .nor) s
  | .region _ ops true, q, s => aOpen K Γ ops (q .nor) s
  | .seq x y, q, s => aUnS x (kSeq (aUnS y q) q) s
  | .cond c x y, q, s => match s.ev c with
    | .d (.v (.bool t)) => bcase t (aUnS x q (s.litO c true)) (aUnS y q (s.litO c false))
    | _ => False
  | .block id c, q, s => aUnS c (kBlk id q) s
  | .loop c, q, s => aLoopN (aUnS c) q n s
  | .exit i, q, s => q (.exit i) s
  | .ret, q, s => q .ret s
  | .scope c, q, s => aUnS c q s
  | .label _, q, s => q .nor s
  | _, _, _ => False
end
section
variable {P : Program} {K : TypeId → Option TK} {Γ : List (FuncId × En)} {w0 : World} {own0 : O0} {n : Nat}
theorem unS_sound (hm : P.follows .mixedOrders = true) (hK : KOk P K) (hΓ : GSound P Γ) : ∀ (c : Code) {X : Cx} {s : S} {a : Act} {q : Kont}, SRel w0 own0 X s a → aUnS K Γ n c q s → c.wp P (kQ w0 own0 q) a X.w
  | .skip, X, s, a, q, hs, h => wp_skip ⟨X, s, rfl, hs, h⟩
  | .region id ops false, X, s, a, q, hs, h => wp_region_list (ops_sound hK hΓ ops.toList hs h fun X' s' a' hs' hk => ⟨X', s', rfl, hs', hk⟩)
  | .region id ops true, X, s, a, q, hs, h => open_sound hm hK hΓ hs h
  | .seq x y, X, s, a, q, hs, h => by
    refine wp_seq (wp_mono (unS_sound hm hK hΓ x hs h) fun e a' w' hq => ?_)
    cases e with
    | normal =>
      obtain ⟨X', s', rfl, hs', hk⟩ := hq
      exact unS_sound hm hK hΓ y hs' hk
    | exit i => exact hq
    | ret => exact hq
    | goto l => exact hq.elim
    | panic ch => exact hq.elim
    | outgrown => exact hq.elim
  | .cond c x y, X, s, a, q, hs, h => by
    simp only [aUnS] at h
    split at h
    · rename_i t ht
      have et : a.eval c = .bool t := inv_bool (ht ▸ ev_sound hs c)
      refine wp_cond et ?_
      cases t with
      | true => exact unS_sound hm hK hΓ x hs (by have h := bcase_t h rfl; rwa [litO_self ht] at h)
      | false => exact unS_sound hm hK hΓ y hs (by have h := bcase_f h rfl; rwa [litO_self ht] at h)
    · exact h.elim
  | .block id c, X, s, a, q, hs, h => by
    refine wp_block (wp_mono (unS_sound hm hK hΓ c hs h) fun e a' w' hq => ?_)
    cases e with
    | normal => exact hq
    | exit i =>
      obtain ⟨X', s', rfl, hs', hk⟩ := hq
      simp only [Exit.inBlock]
      simp only [kBlk] at hk
      split
      · rename_i hi; rw [if_pos hi] at hk; exact ⟨X', s', rfl, hs', hk⟩
      · rename_i hi; rw [if_neg hi] at hk; exact ⟨X', s', rfl, hs', hk⟩
    | ret => exact hq
    | goto l => exact hq.elim
    | panic ch => exact hq.elim
    | outgrown => exact hq.elim
  | .loop c, X, s, a, q, hs, h => loop_sound (fun h1 h2 => unS_sound hm hK hΓ c h1 h2) (ALoop.unr n h) hs
  | .exit i, X, s, a, q, hs, h => wp_exit ⟨X, s, rfl, hs, h⟩
  | .ret, X, s, a, q, hs, h => wp_ret ⟨X, s, rfl, hs, h⟩
  | .scope c, X, s, a, q, hs, h => by
    refine wp_scope_straight (wp_mono (unS_sound hm hK hΓ c hs h) fun e a' w' hq => ?_)
    cases e <;> first | exact hq | exact hq.elim
  | .label l, X, s, a, q, hs, h => wp_label ⟨X, s, rfl, hs, h⟩
  | .rangeFunc _ _ _ _, X, s, a, q, hs, h => h.elim
  | .goto _, X, s, a, q, hs, h => h.elim
  | .refuse _, X, s, a, q, hs, h => h.elim
theorem unS_bsound (n : Nat) (hm : P.follows .mixedOrders = true) (hK : KOk P K) (hΓ : GSound P Γ) (c : Code) : BSound P c (aUnS K Γ n c) := fun hs h => unS_sound hm hK hΓ c hs h
end
abbrev InlT := List (FuncId × Func × Code)
def inlE (K : TypeId → Option TK) (Γ : List (FuncId × En)) (n : Nat) (fn : Func) (c : Code) : List AV → List Ob → (AV → List Ob → Prop) → Prop := fun al o q =>
  aUnr K Γ n c (kRetF K fn.results.toList q) ⟨al ++ List.replicate (fn.ntmps - al.length) .jk, o⟩
def inlΓ (K : TypeId → Option TK) (base : List (FuncId × En)) (tab : InlT) (n : Nat) : Nat → List (FuncId × En)
  | 0 => base
  | d + 1 => base ++ tab.map fun e => (e.1, .ref (inlE K (inlΓ K base tab n d) n e.2.1 e.2.2))
def TabOK (P : Program) (tab : InlT) : Prop := ∀ e ∈ tab, P.funcs[e.1]? = some e.2.1 ∧ e.2.1.body = some e.2.2 ∧ ∀ args w, (callFunc e.1 args).run P w = .ok (.enter e.1 args) w
theorem tabok_nil {P : Program} : TabOK P [] := fun e h => by cases h
theorem tabok_cons {P : Program} {f : FuncId} {fn : Func} {c : Code} {tab : InlT} (hf : P.funcs[f]? = some fn) (hb : fn.body = some c) (hc : ∀ args w, (callFunc f args).run P w = .ok (.enter f args) w) (h : TabOK P tab) : TabOK P ((f, fn, c) :: tab) := fun e he => by
  rcases List.mem_cons.1 he with rfl | he
  · exact ⟨hf, hb, hc⟩
  · exact h e he
theorem findE_append : ∀ (a b : List (FuncId × En)) (f : FuncId), findE (a ++ b) f = match findE a f with | some e => some e | none => findE b f
  | [], b, f => rfl
  | (g, e) :: a, b, f => by
    simp only [List.cons_append, findE]
    split
    · rfl
    · exact findE_append a b f
theorem findE_mem : ∀ {l : List (FuncId × En)} {f : FuncId} {e : En}, findE l f = some e → (f, e) ∈ l
  | (g, e') :: l, f, e, h => by
    simp only [findE] at h
    split at h
    · rename_i hg; cases h; subst hg; exact .head _
    · exact .tail _ (findE_mem h)
theorem inl_sound {P : Program} {K : TypeId → Option TK} {base : List (FuncId × En)} {tab : InlT} {n : Nat} (hm : P.follows .mixedOrders = true) (hK : KOk P K) (hb : GSound P base) (ht : TabOK P tab) : ∀ d, GSound P (inlΓ K base tab n d)
  | 0 => hb
  | d + 1 => fun f e h => by
    unfold inlΓ at h
    rw [findE_append] at h
    split at h
    · rename_i e' h'
      cases h
      exact hb f e h'
    · have hmem := findE_mem h
      obtain ⟨x, hx, he⟩ := List.mem_map.1 hmem
      cases he
      obtain ⟨h1, h2, h3⟩ := ht x hx
      exact ref_unr hm hK (inl_sound hm hK hb ht d) h1 h2 rfl h3 fun al o q h => h
def inlES (K : TypeId → Option TK) (Γ : List (FuncId × En)) (n : Nat) (fn : Func) (c : Code) : List AV → List Ob → (AV → List Ob → Prop) → Prop := fun al o q =>
  aUnS K Γ n c (kRetF K fn.results.toList q) ⟨al ++ List.replicate (fn.ntmps - al.length) .jk, o⟩
def inlΓS (K : TypeId → Option TK) (base : List (FuncId × En)) (tab : InlT) (n : Nat) : Nat → List (FuncId × En)
  | 0 => base
  | d + 1 => base ++ tab.map fun e => (e.1, .ref (inlES K (inlΓS K base tab n d) n e.2.1 e.2.2))
theorem inlS_sound {P : Program} {K : TypeId → Option TK} {base : List (FuncId × En)} {tab : InlT} {n : Nat} (hm : P.follows .mixedOrders = true) (hK : KOk P K) (hb : GSound P base) (ht : TabOK P tab) : ∀ d, GSound P (inlΓS K base tab n d)
  | 0 => hb
  | d + 1 => fun f e h => by
    unfold inlΓS at h
    rw [findE_append] at h
    split at h
    · rename_i e' h'
      cases h
      exact hb f e h'
    · have hmem := findE_mem h
      obtain ⟨x, hx, he⟩ := List.mem_map.1 hmem
      cases he
      obtain ⟨h1, h2, h3⟩ := ht x hx
      exact ref_gen (fun q => q) trimI_ok (unS_bsound n hm hK (inlS_sound hm hK hb ht d) x.2.2) hK h1 h2 rfl h3 fun al o q h => h
end Go.AM
