import Derived.Test.YtoobhfbamikanaaDoorAmFrame
set_option linter.unusedSimpArgs false
set_option linter.unusedVariables false
namespace Go.AM
open Go.RowKit
def forceN : Nat → (Nat → Prop) → Prop
  | 0, k => k 0
  | n + 1, k => k (n + 1)
def forceI : Int → (Int → Prop) → Prop
  | .ofNat n, k => forceN n fun m => k (.ofNat m)
  | .negSucc n, k => forceN n fun m => k (.negSucc m)
def forceV : Value → (Value → Prop) → Prop
  | .int i n, k => forceI n fun m => k (.int i m)
  | .bool true, k => k (.bool true)
  | .bool false, k => k (.bool false)
  | v, k => k v
def forceD : D → (D → Prop) → Prop
  | .v x, k => forceV x fun y => k (.v y)
  | d, k => k d
def forceDs : List D → (List D → Prop) → Prop
  | [], k => k []
  | x :: l, k => forceD x fun y => forceDs l fun m => k (y :: m)
def forceDss : List (List D) → (List (List D) → Prop) → Prop
  | [], k => k []
  | x :: l, k => forceDs x fun y => forceDss l fun m => k (y :: m)
mutual
def forceA : AV → (AV → Prop) → Prop
  | .d x, k => forceD x fun y => k (.d y)
  | .nl, k => k .nl
  | .vw r n, k => forceN r fun r => forceN n fun n => k (.vw r n)
  | .rf i o, k => forceN i fun i => forceN o fun o => k (.rf i o)
  | .rp r s i o, k => forceN r fun r => forceN s fun s => forceN i fun i => forceN o fun o => k (.rp r s i o)
  | .ep c, k => k (.ep c)
  | .mp i, k => forceN i fun i => k (.mp i)
  | .ag cs, k => forceL cs fun cs => k (.ag cs)
  | .tp cs, k => forceL cs fun cs => k (.tp cs)
  | .fn f fs cs, k => forceL fs fun fs => forceL cs fun cs => k (.fn f fs cs)
  | .opt b x, k => forceA x fun x => k (.opt b x)
  | .jk, k => k .jk
def forceL : List AV → (List AV → Prop) → Prop
  | [], k => k []
  | x :: l, k => forceA x fun y => forceL l fun m => k (y :: m)
end
def forceEs : List (Key × AV) → (List (Key × AV) → Prop) → Prop
  | [], k => k []
  | (a, x) :: l, k => forceA x fun y => forceEs l fun m => k ((a, y) :: m)
def forceO : Ob → (Ob → Prop) → Prop
  | .box cs, k => forceL cs fun cs => k (.box cs)
  | .row sz es, k => forceDss es fun es => k (.row sz es)
  | .map kk es, k => forceEs es fun es => k (.map kk es)
  | .gone, k => k .gone
  | .gh cs, k => k (.gh cs)
  | .pow es, k => forceL es fun es => k (.pow es)
  | .bun R, k => k (.bun R)
def forceOs : List Ob → (List Ob → Prop) → Prop
  | [], k => k []
  | x :: l, k => forceO x fun y => forceOs l fun m => k (y :: m)
def forceS (s : S) (k : S → Prop) : Prop := forceL s.t fun t => forceOs s.o fun o => k ⟨t, o⟩
def spineL {α : Type} : List α → (List α → Prop) → Prop
  | [], k => k []
  | x :: l, k => spineL l fun m => k (x :: m)
def headL {α : Type} : List α → (List α → Prop) → Prop
  | [], k => k []
  | x :: l, k => k (x :: l)
def spineLL {α : Type} : List (List α) → (List (List α) → Prop) → Prop
  | [], k => k []
  | x :: l, k => spineL x fun y => spineLL l fun m => k (y :: m)
def shallowO : Ob → (Ob → Prop) → Prop
  | .box cs, k => spineL cs fun cs => k (.box cs)
  | .row sz es, k => spineLL es fun es => k (.row sz es)
  | .map kk es, k => spineL es fun es => k (.map kk es)
  | .gone, k => k .gone
  | .gh cs, k => k (.gh cs)
  | .pow es, k => spineL es fun es => k (.pow es)
  | .bun R, k => k (.bun R)
def shallowOs : List Ob → (List Ob → Prop) → Prop
  | [], k => k []
  | x :: l, k => shallowO x fun y => shallowOs l fun m => k (y :: m)
/-- May it turn the objects? -/
def turnsO : Op → Bool
  | .assign _ | .move _ | .pick .. | .load .. | .fieldAddr .. | .indexAddr .. | .binOp .. | .unOp .. | .lookup .. | .extract .. | .index .. | .convert .. | .field .. | .slice .. => false
  | .call c => match c.callee with | .builtin .len => false | _ => true
  | _ => true
def putF (op : Op) (dst : Option Tmp) (next : S → Prop) (av : AV) (s : S) : Prop := forceA av fun av => spineL (s.put dst av).t fun t => match turnsO op with
  | true => shallowOs s.o fun o => next ⟨t, o⟩
  | false => headL s.o fun o => next ⟨t, o⟩
section
variable (K : TypeId → Option TK) (Γ : List (FuncId × En))
/-- As aOps; what is computed is laid out. -/
def aOpsF (ops : Array Oper) : List Oper → (S → Prop) → S → Prop
  | [], k, s => k s
  | o :: rest, k, s =>
    match o.guard with
    | none => aStep K Γ s o.op fun av s' => putF o.op o.dst (aOpsF ops rest k) av s'
    | some (j, want) =>
      match (ops[j]?).bind (·.dst) with
      | some d => match s.t.getD d .jk with
        | .d (.v (.bool b)) => bcase b
          (match want with | true => aStep K Γ (s.lit d true) o.op fun av s' => putF o.op o.dst (aOpsF ops rest k) av s' | false => aOpsF ops rest k ((s.lit d true).put o.dst (.tp [])))
          (match want with | false => aStep K Γ (s.lit d false) o.op fun av s' => putF o.op o.dst (aOpsF ops rest k) av s' | true => aOpsF ops rest k ((s.lit d false).put o.dst (.tp [])))
        | .tp [] => aOpsF ops rest k (s.put o.dst (.tp []))
        | _ => False
      | none => False
end
section
variable (K : TypeId → Option TK) (Γ : List (FuncId × En)) (n : Nat)
/-- As aCode; each loop ends within n rounds. -/
def aUnr : Code → Kont → S → Prop
  | .skip, q, s => q .nor s
  | .region _ ops false, q, s => aOpsF K Γ ops ops.toList (q .nor) s
  | .region _ ops true, q, s => aOpen K Γ ops (fun s => forceS s (q .nor)) s
  | .seq x y, q, s => aUnr x (kSeq (aUnr y q) q) s
  | .cond c x y, q, s => match s.ev c with
    | .d (.v (.bool t)) => bcase t (aUnr x q (s.litO c true)) (aUnr y q (s.litO c false))
    | _ => False
  | .block id c, q, s => aUnr c (kBlk id q) s
  | .loop c, q, s => aLoopN (aUnr c) q n s
  | .exit i, q, s => q (.exit i) s
  | .ret, q, s => q .ret s
  | .scope c, q, s => aUnr c q s
  | .label _, q, s => q .nor s
  | _, _, _ => False
end
section
variable {P : Program} {K : TypeId → Option TK} {Γ : List (FuncId × En)} {w0 : World} {own0 : O0} {n : Nat}
/-- A transformer that is sound for a code. -/
def BSound (P : Program) (c : Code) (B : Kont → S → Prop) : Prop := ∀ {w0 : World} {own0 : O0} {X : Cx} {s : S} {a : Act} {q : Kont}, SRel w0 own0 X s a → B q s → c.wp P (kQ w0 own0 q) a X.w
theorem code_bsound (hm : P.follows .mixedOrders = true) (hK : KOk P K) (hΓ : GSound P Γ) (c : Code) : BSound P c (aCode K Γ c) := fun hs h => code_sound hm hK hΓ c hs h
/-- A function that may turn its caller's objects; its end may be told otherwise. -/
theorem ref_gen (T : (AV → List Ob → Prop) → AV → List Ob → Prop) (hT0 : TrimOk T) {B : Kont → S → Prop} {f : FuncId} {fn : Func} {c : Code} {rs : List ResultVar} {E : List AV → List Ob → (AV → List Ob → Prop) → Prop} (hB : BSound P c B) (hK : KOk P K) (hf : P.funcs[f]? = some fn) (hb : fn.body = some c) (hrs : fn.results.toList = rs)
    (hcall : ∀ args w, (callFunc f args).run P w = .ok (.enter f args) w) (h : ∀ al o q, E al o q → B (kRetF K rs (T q)) ⟨al ++ List.replicate (fn.ntmps - al.length) .jk, o⟩) : RSound P f E := by
  refine ⟨hcall, fun X o gv al vs q g hgh hT hlen hrel hE => ?_⟩
  have hst : SRel X.w ⟨X.obj, X.ext, gv⟩ X ⟨al ++ List.replicate (fn.ntmps - al.length) .jk, o⟩ { tmps := vs ++ Array.replicate (fn.ntmps - vs.size) undef, defers := [] } :=
    ⟨by simp [hlen], fun i hi => by
      rw [List.getElem_append]
      split
      · rename_i hlt
        rw [getD_append_left (by omega)]
        exact hrel i hlt
      · simp only [List.getElem_replicate]; exact .jk, rfl, g, rfl, ⟨rfl, rfl, rfl, Nat.le_refl _, fun _ _ _ => rfl⟩, fun b hb => .inl hb, hgh, hT⟩
  refine calls_of_wp hf hb (wp_mono (hB (w0 := X.w) (own0 := ⟨X.obj, X.ext, gv⟩) hst (h al o q hE)) fun e a' w' hq => ?_)
  have key : ∀ (Y : Cx) (s : S), Y.w = w' → SRel X.w ⟨X.obj, X.ext, gv⟩ Y s a' → (match resL K s rs with | some l => T q (resAV l) s.o | none => False) →
      a'.defers = [] ∧ ∃ v, (results fn a'.tmps).run P w' = .ok v w' ∧ ∃ v_1 av o' X', Ending.returned v = .returned v_1 ∧ q av o' ∧ X'.w = w' ∧ GRel X' o' ∧ GhRel X' o' gv ∧ VRel X' av v_1 ∧ X'.ext = X.ext ∧ Fr X.w X.obj w' ∧ ∀ b, X'.obj b → X.obj b ∨ X.w.heap.size ≤ b := by
    rintro Y s rfl hs hk
    split at hk
    · rename_i rl hrl
      obtain ⟨v, h1, h2⟩ := results_sound (P := P) hrs hK hs hrl
      obtain ⟨av2, o2, Y', t1, t2, t3, t4⟩ := hT0 _ _ _ _ _ _ _ _ hs h2 hk
      exact ⟨hs.defers, v, h1, v, _, _, Y', rfl, t1, t2, t3.g, t3.gh, t4, t3.ext, hs.fr, t3.new⟩
    · exact hk.elim
  cases e with
  | normal => obtain ⟨Y, s, e1, e2, e3⟩ := hq; exact key Y s e1 e2 e3
  | ret => obtain ⟨Y, s, e1, e2, e3⟩ := hq; exact key Y s e1 e2 e3
  | exit i => obtain ⟨Y, s, _, _, hk⟩ := hq; exact hk.elim
  | goto l => exact hq.elim
  | panic ch => exact hq.elim
  | outgrown => exact hq.elim
end
section
variable (K : TypeId → Option TK) (Γ : List (FuncId × En)) (n : Nat)
def aUnS : Code → Kont → S → Prop
  | .skip, q, s => q .nor s
  | .region _ ops false, q, s => aOps K Γ ops ops.toList (q .nor) s
  | .region _ ops true, q, s => aOpen K Γ ops (q .nor) s
  | .seq x y, q, s => aUnS x (kSeq (aUnS y q) q) s
  | .cond c x y, q, s => match s.ev c with
    | .d (.v (.bool t)) => bcase t (aUnS x q (s.litO c true)) (aUnS y q (s.litO c false))
    | _ => False
  | .block id c, q, s => aUnS c (kBlk id q) s
  | .loop c, q, s => aLoopN (aUnS c) q n s
  | .exit i, q, s => q (.exit i) s
  | .ret, q, s => q .ret s
  | .scope c, q, s => aUnS c q s
  | .label _, q, s => q .nor s
  | _, _, _ => False
def aOut : Code → Kont → S → Prop
  | .skip, q, s => q .nor s
  | .region _ ops false, q, s => aOps K Γ ops ops.toList (q .nor) s
  | .region _ ops true, q, s => aOpen K Γ ops (q .nor) s
  | .seq x y, q, s => aOut x (kSeq (aOut y q) q) s
  | .cond c x y, q, s => match s.ev c with
    | .d (.v (.bool t)) => bcase t (aOut x q (s.litO c true)) (aOut y q (s.litO c false))
    | _ => False
  | .block id c, q, s => aOut c (kBlk id q) s
  | .loop c, q, s => ALoop (aUnS K Γ n c) q s
  | .exit i, q, s => q (.exit i) s
  | .ret, q, s => q .ret s
  | .scope c, q, s => aOut c q s
  | .label _, q, s => q .nor s
  | _, _, _ => False
end
section
variable {P : Program} {K : TypeId → Option TK} {Γ : List (FuncId × En)} {w0 : World} {own0 : O0} {n : Nat}
end
end Go.AM
