import Derived.WalkKit
import Derived.Deep.Quiet
import Derived.Test.YtchpfeblinnoiaaGreatDoorAmTabs
import Derived.OrdersHeld
namespace Go.AM
open Go.RowKit
def LIM : Nat := 2147483648
def plainV : Value → Bool
  | .bool _ | .int _ _ | .float _ _ | .pointer _ | .map _ | .nilFunc | .nilIface => true
  | .string s => decide (s.size ≤ LIM)
  | _ => false
inductive D where
  | v (x : Value)
  | sl (es : List (List D))
  | fn (f : Fn) (fs cs : List D)
inductive AV where
  | d (x : D)
  | nl
  | vw (r n : Nat)
  | rf (i off : Nat)
  | rp (r sz i off : Nat)
  | ep (c : List D)
  | mp (i : Nat)
  | ag (cs : List AV)
  | tp (vs : List AV)
  | fn (f : Fn) (fs cs : List AV)
  | opt (b : Bool) (x : AV)
  | jk
inductive Key where
  | s (b : ByteArray)
  | i (k : IntKind) (n : Int)
  | ss (l : List ByteArray)
  deriving DecidableEq
inductive KK where
  | str | int (k : IntKind) | strs (n : Nat)
  -- the same; the entries, plain data, are told by a term that isn't looked into
  | ystr | yint (k : IntKind) | ystrs (n : Nat)
  deriving DecidableEq
def KK.base : KK → KK
  | .ystr => .str
  | .yint k => .int k
  | .ystrs n => .strs n
  | k => k
def KK.sy : KK → KK
  | .str => .ystr
  | .int k => .yint k
  | .strs n => .ystrs n
  | k => k
def KK.isSy : KK → Bool
  | .ystr => true
  | .yint _ => true
  | .ystrs _ => true
  | _ => false
def Key.kind : Key → KK
  | .s _ => .str
  | .i k _ => .int k
  | .ss l => .strs l.length
def KRel : Key → Value → Prop
  | .s b, v => v = .string b
  | .i k n, v => v = .int k n
  | .ss l, v => v = .agg (l.map Value.string).toArray
structure Rec where
  i : Nat → Int
  s : Nat → ByteArray
  m : List (Key × AV)
inductive FK where
  | int (k : IntKind) | str
inductive Shp where
  | box (l : List FK)
  | map (kk : KK)
structure FamD where
  kk : KK
  sh : Shp
  l : List (Key × Nat × Rec)
def FK.val (k : FK) (r : Rec) (j : Nat) : Value := match k with
  | .int ik => .int ik (r.i j)
  | .str => .string (r.s j)
def Shp.ref (sh : Shp) (b : Nat) : Value := match sh with
  | .box _ => .pointer (some ⟨b, 0, none⟩)
  | .map _ => .map (some b)
def MapW (w : World) (b n : Nat) (R : Nat → MapEntry → Prop) : Prop := ∃ (me : Array MapEntry) (clock : Nat), w.heap[b]? = some (.map me clock) ∧ me.size = n ∧ (∀ (j : Nat) (h : j < me.size), me[j].born < clock) ∧
  (∀ (j k : Nat) (hj : j < me.size) (hk : k < me.size), me[j].born = me[k].born → j = k) ∧ ∀ (j : Nat) (h : j < me.size), R j me[j]
def MemP (sh : Shp) (r : Rec) (w : World) (b : Nat) : Prop := match sh with
  | .box ks => ∃ arr T, w.heap[b]? = some (.cells arr T (0, 0)) ∧ arr.size = ks.length ∧ ∀ (j : Nat) (h : j < ks.length), plainV (ks[j].val r j) = true ∧ arr.getD j undef = ks[j].val r j
  | .map kk => (∀ e ∈ r.m, e.1.kind = kk) ∧ MapW w b r.m.length fun j e => ∀ h : j < r.m.length, KRel r.m[j].1 e.key ∧ ∃ x : ByteArray, r.m[j].2 = .d (.v (.string x)) ∧ plainV (.string x) = true ∧ e.val = .string x
def FamP (f : FamD) (_ : Nat → Prop) (w : World) (b : Nat) (fp : Nat → Prop) : Prop :=
  (∀ e ∈ f.l, e.1.kind = f.kk) ∧ MapW w b f.l.length (fun j e => ∀ h : j < f.l.length, KRel f.l[j].1 e.key ∧ e.val = f.sh.ref f.l[j].2.1) ∧ (f.l.map (·.2.1)).Nodup ∧ ∀ e ∈ f.l, e.2.1 ≠ b ∧ fp e.2.1 ∧ MemP f.sh e.2.2 w e.2.1
theorem MapW.heap {w w' : World} {b n : Nat} {R : Nat → MapEntry → Prop} (h : MapW w b n R) (e : w'.heap[b]? = w.heap[b]?) : MapW w' b n R := by
  obtain ⟨me, c, h1, h2⟩ := h
  exact ⟨me, c, e.trans h1, h2⟩
theorem MemP.heap {sh : Shp} {r : Rec} {w w' : World} {b : Nat} (h : MemP sh r w b) (e : w'.heap[b]? = w.heap[b]?) : MemP sh r w' b := by
  cases sh with
  | box ks => obtain ⟨arr, T, h1, h2⟩ := h; exact ⟨arr, T, e.trans h1, h2⟩
  | map kk => simp only [MemP] at h ⊢; exact ⟨h.1, h.2.heap e⟩
theorem FamP.heap {f : FamD} {own own' : Nat → Prop} {w w' : World} {b : Nat} {fp : Nat → Prop} (h : FamP f own w b fp) (e : ∀ c, c = b ∨ fp c → w'.heap[c]? = w.heap[c]?) : FamP f own' w' b fp :=
  ⟨h.1, h.2.1.heap (e b (.inl rfl)), h.2.2.1, fun x hx => ⟨(h.2.2.2 x hx).1, (h.2.2.2 x hx).2.1, (h.2.2.2 x hx).2.2.heap (e _ (.inr (h.2.2.2 x hx).2.1))⟩⟩
structure FrZ where
  bm : Nat
  me : Array MapEntry
  clk : Nat
inductive VK where
  | str | int (k : IntKind) | map | ptr
structure ItD where
  Z : FrZ
  ents : List (Key × AV)
  vk : VK
  ky : Bool
  vis : List Nat
  cur : Option (AV × AV)
structure ItP (d : ItD) (w : World) (b : Nat) : Prop where
  it : ∃ seen : Array Nat, w.heap[b]? = some (.mapIter (some d.Z.bm) d.Z.clk seen d.Z.clk) ∧ seen.toList = (d.vis.map fun n => (d.Z.me.getD n ⟨undef, undef, 0⟩).born).reverse
  born : ∀ x ∈ d.Z.me.toList, x.born < d.Z.clk
  nd : (d.Z.me.toList.map (·.born)).Nodup
  sz : d.Z.me.size = d.ents.length
  ent : ∀ (j : Nat) (h : j < d.ents.length) (h' : j < d.Z.me.size), KRel d.ents[j].1 d.Z.me[j].key ∧ d.ents[j].2 = .d (.v d.Z.me[j].val) ∧ plainV d.Z.me[j].val = true
  vis : ∀ n ∈ d.vis, n < d.Z.me.size
  cur : ∀ ka va, d.cur = some (ka, va) → ∃ (n : Nat) (l : List Nat) (h : n < d.Z.me.size), d.vis = n :: l ∧ va = .d (.v d.Z.me[n].val) ∧ plainV d.Z.me[n].val = true ∧ (ka = .jk ∨ ka = .d (.v d.Z.me[n].key) ∧ plainV d.Z.me[n].key = true)
theorem ItP.heap {d : ItD} {w w' : World} {b : Nat} (h : ItP d w b) (e : w'.heap[b]? = w.heap[b]?) : ItP d w' b :=
  ⟨by rw [e]; exact h.it, h.born, h.nd, h.sz, h.ent, h.vis, h.cur⟩
def FdP (Z : FrZ) (dl : List Nat) (w : World) : Prop := ∃ me : Array MapEntry, w.heap[Z.bm]? = some (.map me Z.clk) ∧ (me.toList.map (·.born)).Nodup ∧ (∀ e ∈ me.toList, ∃ (n : Nat) (h : n < Z.me.size), n ∉ dl ∧ e = Z.me[n]) ∧
  (∀ (n : Nat) (h : n < Z.me.size), n ∉ dl → Z.me[n] ∈ me.toList) ∧ ∀ (n m : Nat) (h : n < Z.me.size) (h' : m < Z.me.size), Z.me[n].key = Z.me[m].key → n = m
theorem FdP.heap {Z : FrZ} {dl : List Nat} {w w' : World} (h : FdP Z dl w) (e : w'.heap[Z.bm]? = w.heap[Z.bm]?) : FdP Z dl w' := by
  obtain ⟨me, h1, h2⟩ := h
  exact ⟨me, e.trans h1, h2⟩
structure Rep where
  p : (Nat → Prop) → World → Nat → (Nat → Prop) → Prop
  stab : ∀ {own own' : Nat → Prop} {w w' : World} {b : Nat} {fp : Nat → Prop}, p own w b fp → w.heap.size ≤ w'.heap.size → (∀ c, c < w.heap.size → ¬ own c → w'.heap[c]? = w.heap[c]? ∧ ¬ own' c) → (∀ c, c = b ∨ fp c → w'.heap[c]? = w.heap[c]?) → p own' w' b fp
  tag : Option FamD := none
  tagOK : ∀ f, tag = some f → ∀ own w b fp, p own w b fp → FamP f own w b fp := by intro f h; cases h
  it : Option ItD := none
  itOK : ∀ d, it = some d → ∀ own w b fp, p own w b fp → ItP d w b := by intro f h; cases h
  fz : List FrZ := []
  fzOK : ∀ Z ∈ fz, ∀ own w b fp, p own w b fp → w.heap[Z.bm]? = some (.map Z.me Z.clk) := by intro f h; cases h
  fd : Option (FrZ × List Nat) := none
  fdOK : ∀ Z dl, fd = some (Z, dl) → ∀ own w b fp, p own w b fp → Z.bm = b ∧ FdP Z dl w := by intro Z dl h; cases h
def famR (f : FamD) : Rep := { p := FamP f, stab := fun h _ _ e => h.heap e, tag := some f, tagOK := fun g h _ _ _ _ hp => by cases h; exact hp }
def frzR (R : Rep) (Z : FrZ) : Rep where
  p own w b fp := R.p own w b fp ∧ (Z.bm = b ∨ fp Z.bm) ∧ w.heap[Z.bm]? = some (.map Z.me Z.clk)
  stab h h1 h2 h3 := ⟨R.stab h.1 h1 h2 h3, h.2.1, (h3 _ h.2.1).trans h.2.2⟩
  tag := R.tag
  tagOK f h own w b fp hp := R.tagOK f h own w b fp hp.1
  fz := Z :: R.fz
  fzOK Y hY own w b fp hp := by
    rcases List.mem_cons.1 hY with rfl | hY
    · exact hp.2.2
    · exact R.fzOK Y hY own w b fp hp.1
def frdR (f : FamD) (Z : FrZ) (dl : List Nat) : Rep where
  p own w b fp := FamP f own w b fp ∧ Z.bm = b ∧ FdP Z dl w
  stab h h1 h2 h3 := ⟨h.1.heap h3, h.2.1, h.2.2.heap (h3 _ (.inl h.2.1))⟩
  tag := some f
  tagOK g h own w b fp hp := by cases h; exact hp.1
  fd := some (Z, dl)
  fdOK Y d h own w b fp hp := by cases h; exact hp.2
def mfzR (Z : FrZ) : Rep where
  p _ w b _ := Z.bm = b ∧ w.heap[b]? = some (.map Z.me Z.clk)
  stab h _ _ h3 := ⟨h.1, (h3 _ (.inl rfl)).trans h.2⟩
  fz := [Z]
  fzOK Y hY own w b fp hp := by
    rw [List.mem_singleton] at hY
    subst hY
    rw [hp.1]; exact hp.2
def itR (d : ItD) : Rep where
  p _ w b _ := ItP d w b
  stab h _ _ h3 := h.heap (h3 _ (.inl rfl))
  it := some d
  itOK g h _ _ _ _ hp := by cases h; exact hp
inductive Ob where
  | box (cs : List AV)
  | row (sz : Nat) (es : List (List D))
  | map (kk : KK) (ents : List (Key × AV))
  | gone
  -- the slots of a caller that waits
  | gh (cs : List AV)
  -- a row of references, one cell each
  | pow (es : List AV)
  -- a bundle of blocks, not looked into
  | bun (R : Rep)
def Ob.live : Ob → Bool
  | .gone => false
  | .gh _ => false
  | _ => true
structure CC where
  fst : Nat
  snd : Nat
  fp : Nat → Prop
def cc (a b : Nat) : CC := ⟨a, b, fun _ => False⟩
@[simp] theorem cc_1 (a b : Nat) : (cc a b).1 = a := rfl
@[simp] theorem cc_2 (a b : Nat) : (cc a b).2 = b := rfl
@[simp] theorem cc_fp (a b c : Nat) : (cc a b).fp c = False := rfl
def Ob.isPow : Ob → Bool
  | .pow _ => true
  | _ => false
def Ob.root : Ob → Bool
  | .box _ => true
  | .map _ _ => true
  | .bun _ => true
  | _ => false
structure Cx where
  b : Nat → Nat
  c : Nat → CC
  z : Nat → Bool
  rw : Nat → Bool
  n : Nat
  obj : Nat → Prop
  ext : Nat → Prop
  w : World
def Cx.own (X : Cx) (b : Nat) : Prop := X.obj b ∨ X.ext b
def Cx.blk (X : Cx) (i b : Nat) : Prop := X.b i = b ∨ (X.c i).fp b
theorem Cx.blk_eq {X X' : Cx} {i j : Nat} (h1 : X'.b j = X.b i) (h2 : X'.c j = X.c i) {b : Nat} : X'.blk j b ↔ X.blk i b := by unfold Cx.blk; rw [h1, h2]
inductive DRel (own : Nat → Prop) (w : World) : D → Value → Prop
  | v {x : Value} (h : plainV x = true) : DRel own w (.v x) x
  | nil {ad : Option Addr} {cap : Nat} : DRel own w (.sl []) (.slice ad 0 cap)
  | sl {es : List (List D)} {b off cap : Nat} (sz : Nat) (hz : 0 < sz) (g : Nat → Nat → Value) (hl : es.length ≤ LIM) (hcap : es.length ≤ cap) (hb : 0 < es.length → ¬ own b)
      (hsz : ∀ (i : Nat) (h : i < es.length), es[i].length = sz)
      (hc : ∀ i j, i < es.length → j < sz → w.cell? ⟨b, off + (i * sz + j), none⟩ = some (g i j))
      (hr : ∀ (i : Nat) (hi : i < es.length) (j : Nat) (hj : j < es[i].length), DRel own w es[i][j] (g i j)) : DRel own w (.sl es) (.slice (some ⟨b, off, none⟩) es.length cap)
  | fn {f : Fn} {fs cs : List D} {fv cv : Array Value} (h1 : fv.size = fs.length) (h2 : cv.size = cs.length)
      (r1 : ∀ (i : Nat) (h : i < fs.length), DRel own w fs[i] (fv.getD i undef)) (r2 : ∀ (i : Nat) (h : i < cs.length), DRel own w cs[i] (cv.getD i undef)) : DRel own w (.fn f fs cs) (.func f fv cv)
inductive VRel (X : Cx) : AV → Value → Prop
  | d {x : D} {v : Value} (h : DRel X.own X.w x v) : VRel X (.d x) v
  | nl : VRel X .nl (.slice none 0 0)
  | vw {r n : Nat} (h : r < X.n) (hz : X.z r = false) (hn : n ≤ (X.c r).2 ∧ n ≤ (X.c r).1) : VRel X (.vw r n) (.slice (some ⟨X.b r, 0, none⟩) n (X.c r).1)
  | vz {r : Nat} (h : r < X.n) (hz : X.z r = true) : VRel X (.vw r 0) (.slice none 0 0)
  | rf {i off : Nat} (h : i < X.n) (hr : X.rw i = false) : VRel X (.rf i off) (.pointer (some ⟨X.b i, off, none⟩))
  | rp {r sz i off : Nat} (h : r < X.n) : VRel X (.rp r sz i off) (.pointer (some ⟨X.b r, i * sz + off, none⟩))
  | ep {c : List D} {b off : Nat} (g : Nat → Value) (hb : 0 < c.length → ¬ X.own b) (hc : ∀ j, j < c.length → X.w.cell? ⟨b, off + j, none⟩ = some (g j))
      (hr : ∀ (j : Nat) (h : j < c.length), DRel X.own X.w c[j] (g j)) : VRel X (.ep c) (.pointer (some ⟨b, off, none⟩))
  | mp {i : Nat} (h : i < X.n) (hr : X.rw i = false) : VRel X (.mp i) (.map (some (X.b i)))
  | ag {cs : List AV} {arr : Array Value} (hl : arr.size = cs.length) (hr : ∀ (j : Nat) (h : j < cs.length), VRel X cs[j] (arr.getD j undef)) : VRel X (.ag cs) (.agg arr)
  | tp {cs : List AV} {arr : Array Value} (hl : arr.size = cs.length) (hr : ∀ (j : Nat) (h : j < cs.length), VRel X cs[j] (arr.getD j undef)) : VRel X (.tp cs) (.tuple arr)
  | fn {f : Fn} {fs cs : List AV} {fv cv : Array Value} (h1 : fv.size = fs.length) (h2 : cv.size = cs.length)
      (r1 : ∀ (i : Nat) (h : i < fs.length), VRel X fs[i] (fv.getD i undef)) (r2 : ∀ (i : Nat) (h : i < cs.length), VRel X cs[i] (cv.getD i undef)) : VRel X (.fn f fs cs) (.func f fv cv)
  | opt {b : Bool} {x : AV} {v : Value} (h : b = true → VRel X x v) : VRel X (.opt b x) v
  | jk {v : Value} : VRel X .jk v
mutual
def AV.firm : AV → Bool
  | .d _ | .rf _ _ | .mp _ | .nl => true
  | .fn _ fs cs => firmL fs && firmL cs
  | .ag cs => firmL cs
  | _ => false
def firmL : List AV → Bool
  | [] => true
  | x :: l => x.firm && firmL l
end
def AV.one : AV → Bool
  | .d _ | .rf _ _ | .mp _ | .nl | .fn _ _ _ => true
  | _ => false
mutual
def AV.rigid : AV → Bool
  | .d _ => true
  | .nl => true
  | .ag cs => rigidL cs
  | _ => false
def rigidL : List AV → Bool
  | [] => true
  | x :: l => x.rigid && rigidL l
end
def ORel (X : Cx) (i : Nat) : Ob → Prop
  | .box cs => X.z i = false ∧ ∃ arr T, X.w.heap[X.b i]? = some (.cells arr T (0, 0)) ∧ arr.size = cs.length ∧ ∀ (j : Nat) (h : j < cs.length), VRel X cs[j] (arr.getD j undef)
  | .row sz es => 0 < sz ∧ es.length ≤ LIM ∧ ((X.z i = true ∧ es = []) ∨ (X.z i = false ∧ ∃ arr T, X.w.heap[X.b i]? = some (.cells arr T (0, 0)) ∧ (X.c i).2 = es.length ∧ (X.c i).1 * sz ≤ arr.size ∧ es.length ≤ (X.c i).1 ∧
      (∀ (k : Nat) (h : k < es.length), es[k].length = sz) ∧ ∀ (k : Nat) (hk : k < es.length) (j : Nat) (hj : j < es[k].length), DRel X.own X.w es[k][j] (arr.getD (k * sz + j) undef)))
  | .map kk ents => X.z i = false ∧ (∀ e ∈ ents, e.1.kind = kk.base ∧ (kk.isSy = true → e.2.rigid = true)) ∧ ∃ (me : Array MapEntry) (clock : Nat), X.w.heap[X.b i]? = some (.map me clock) ∧ me.size = ents.length ∧ (∀ (j : Nat) (h : j < me.size), me[j].born < clock) ∧
      (∀ (j k : Nat) (hj : j < me.size) (hk : k < me.size), me[j].born = me[k].born → j = k) ∧
      ∀ (j : Nat) (h : j < ents.length) (h' : j < me.size), KRel ents[j].1 me[j].key ∧ ents[j].2.firm = true ∧ VRel X ents[j].2 me[j].val
  | .gone => True
  | .gh _ => True
  | .pow es => X.rw i = true ∧ es.length ≤ LIM ∧ (∀ x ∈ es, x.firm = true ∧ x.one = true) ∧ ((X.z i = true ∧ es = []) ∨ (X.z i = false ∧ ∃ arr T, X.w.heap[X.b i]? = some (.cells arr T (0, 0)) ∧ (X.c i).2 = es.length ∧ (X.c i).1 ≤ arr.size ∧ es.length ≤ (X.c i).1 ∧
      ∀ (j : Nat) (h : j < es.length), VRel X es[j] (arr.getD j undef)))
  | .bun R => X.z i = false ∧ R.p X.own X.w (X.b i) (X.c i).fp
structure GRel (X : Cx) (o : List Ob) : Prop where
  n : X.n = o.length
  obj : ∀ b, X.obj b ↔ ∃ i ob, o[i]? = some ob ∧ ob.live = true ∧ X.z i = false ∧ X.blk i b
  injB : ∀ i j ob ob', o[i]? = some ob → o[j]? = some ob' → ob.live = true → ob'.live = true → X.z i = false → X.z j = false → ∀ b, X.blk i b → X.blk j b → i = j
  ltB : ∀ i ob, o[i]? = some ob → ob.live = true → X.z i = false → ∀ b, X.blk i b → b < X.w.heap.size
  ext1 : ∀ b, X.ext b → b < X.w.heap.size
  ext2B : ∀ i ob, o[i]? = some ob → ob.live = true → X.z i = false → ∀ b, X.blk i b → ¬ X.ext b
  rws : ∀ i sz es, o[i]? = some (.row sz es) → X.rw i = true
  rel : ∀ i ob, o[i]? = some ob → ORel X i ob
theorem GRel.inj {X : Cx} {o : List Ob} (g : GRel X o) (i j : Nat) (ob ob' : Ob) (h1 : o[i]? = some ob) (h2 : o[j]? = some ob') (l1 : ob.live = true) (l2 : ob'.live = true) (z1 : X.z i = false) (z2 : X.z j = false) (e : X.b i = X.b j) : i = j :=
  g.injB i j ob ob' h1 h2 l1 l2 z1 z2 (X.b i) (.inl rfl) (.inl e.symm)
theorem GRel.lt {X : Cx} {o : List Ob} (g : GRel X o) (i : Nat) (ob : Ob) (h : o[i]? = some ob) (l : ob.live = true) (z : X.z i = false) : X.b i < X.w.heap.size := g.ltB i ob h l z _ (.inl rfl)
theorem GRel.ext2 {X : Cx} {o : List Ob} (g : GRel X o) (i : Nat) (ob : Ob) (h : o[i]? = some ob) (l : ob.live = true) (z : X.z i = false) : ¬ X.ext (X.b i) := g.ext2B i ob h l z _ (.inl rfl)
structure Fr (w0 : World) (own0 : Nat → Prop) (w : World) : Prop where
  os : w.os = w0.os
  tape : w.tape = w0.tape
  output : w.output = w0.output
  size : w0.heap.size ≤ w.heap.size
  keep : ∀ b, b < w0.heap.size → ¬ own0 b → w.heap[b]? = w0.heap[b]?
theorem cell_lt {w : World} {a : Addr} {v : Value} (h : w.cell? a = some v) : a.block < w.heap.size := World.block_lt_of_cell? _ _ h
theorem cell_of_block {w w' : World} {a : Addr} (h : w'.heap[a.block]? = w.heap[a.block]?) : w'.cell? a = w.cell? a := by
  simp only [World.cell?, h]
structure Keeps (own : Nat → Prop) (w : World) (own' : Nat → Prop) (w' : World) : Prop where
  size : w.heap.size ≤ w'.heap.size
  keep : ∀ b, b < w.heap.size → ¬ own b → w'.heap[b]? = w.heap[b]? ∧ ¬ own' b
theorem Keeps.refl (own : Nat → Prop) (w : World) : Keeps own w own w := ⟨Nat.le_refl _, fun _ _ h => ⟨rfl, h⟩⟩
theorem Keeps.trans {o1 o2 o3 : Nat → Prop} {w1 w2 w3 : World} (h : Keeps o1 w1 o2 w2) (k : Keeps o2 w2 o3 w3) : Keeps o1 w1 o3 w3 :=
  ⟨Nat.le_trans h.size k.size, fun b hb ho => by
    obtain ⟨e1, n1⟩ := h.keep b hb ho
    obtain ⟨e2, n2⟩ := k.keep b (Nat.lt_of_lt_of_le hb h.size) n1
    exact ⟨e2.trans e1, n2⟩⟩
def Tabs (own : Nat → Prop) (w : World) : Prop := ∀ x ∈ tabL, ¬ own x.g ∧ x.g < w.heap.size ∧ (∀ j, j < x.n → w.cell? ⟨x.g, j, none⟩ = some (x.f j)) ∧ (x.ex = true → ∃ cs T fr, w.heap[x.g]? = some (.cells cs T fr) ∧ cs.size = x.n)
theorem Tabs.keeps {own own' : Nat → Prop} {w w' : World} (h : Keeps own w own' w') (t : Tabs own w) : Tabs own' w' := fun x hx => by
  obtain ⟨h1, h2, h3, h4⟩ := t x hx
  obtain ⟨k1, k2⟩ := h.keep x.g h2 h1
  exact ⟨k2, Nat.lt_of_lt_of_le h2 h.size, fun j hj => (cell_of_block (a := ⟨x.g, j, none⟩) k1).trans (h3 j hj), fun he => by rw [k1]; exact h4 he⟩
theorem Tabs.fewer {own own' : Nat → Prop} {w : World} (h : ∀ b, own' b → own b) (t : Tabs own w) : Tabs own' w := fun x hx => ⟨fun hh => (t x hx).1 (h _ hh), (t x hx).2⟩
theorem Cx.keeps {X X' : Cx} (h : Keeps X.obj X.w X'.obj X'.w) (e : X'.ext = X.ext) : Keeps X.own X.w X'.own X'.w :=
  ⟨h.size, fun b hb ho => ⟨(h.keep b hb fun hh => ho (.inl hh)).1, fun hh => hh.elim (h.keep b hb fun hh => ho (.inl hh)).2 (fun hh => ho (.inr (e ▸ hh)))⟩⟩
theorem Keeps.cell {own own' : Nat → Prop} {w w' : World} (h : Keeps own w own' w') {a : Addr} {v : Value} (hb : ¬ own a.block) (hc : w.cell? a = some v) :
    w'.cell? a = some v ∧ ¬ own' a.block := by
  obtain ⟨e, n⟩ := h.keep a.block (cell_lt hc) hb
  exact ⟨(cell_of_block e).trans hc, n⟩
theorem DRel.mono {own own' : Nat → Prop} {w w' : World} (h : Keeps own w own' w') {d : D} {v : Value} (r : DRel own w d v) : DRel own' w' d v := by
  induction r with
  | v hx => exact .v hx
  | nil => exact .nil
  | @sl es b off cap sz hz g hl hcap hb hsz hc hr ih =>
    by_cases h0 : 0 < es.length
    · have hn := hb h0
      have hlt : b < w.heap.size := cell_lt (hc 0 0 h0 hz)
      refine .sl sz hz g hl hcap (fun _ => (h.keep b hlt hn).2) hsz (fun i j hi hj => ?_) (fun i hi j hj => ih i hi j hj)
      exact (h.cell (a := ⟨b, off + (i * sz + j), none⟩) hn (hc i j hi hj)).1
    · refine .sl sz hz g hl hcap (fun hh => absurd hh h0) hsz (fun i j hi hj => absurd hi (by omega)) (fun i hi j hj => absurd hi (by omega))
  | fn h1 h2 r1 r2 ih1 ih2 => exact .fn h1 h2 ih1 ih2
mutual
def AV.kill (r : Nat) : AV → AV
  | .vw i n => if i = r then .jk else .vw i n
  | .rf i o => .rf i o
  | .rp i s k o => if i = r then .jk else .rp i s k o
  | .mp i => .mp i
  | .ag cs => .ag (killL r cs)
  | .tp cs => .tp (killL r cs)
  | .fn f fs cs => .fn f (killL r fs) (killL r cs)
  | .opt b x => .opt b (x.kill r)
  | .d x => .d x
  | .nl => .nl
  | .ep c => .ep c
  | .jk => .jk
def killL (r : Nat) : List AV → List AV
  | [] => []
  | x :: l => x.kill r :: killL r l
end
theorem killL_eq (r : Nat) : ∀ l, killL r l = l.map (AV.kill r)
  | [] => by simp [killL]
  | x :: l => by simp [killL, killL_eq r l]
mutual
/-- Views of row r read as the sealed slice. -/
def AV.sub (r : Nat) (es : List (List D)) : AV → AV
  | .vw i n => if i = r then .d (.sl (es.take n)) else .vw i n
  | .rp i s k o => if i = r then .jk else .rp i s k o
  | .ag cs => .ag (subL r es cs)
  | .tp cs => .tp (subL r es cs)
  | .fn f fs cs => .fn f (subL r es fs) (subL r es cs)
  | .opt b x => .opt b (x.sub r es)
  | .d x => .d x
  | .nl => .nl
  | .ep c => .ep c
  | .jk => .jk
  | .rf i o => .rf i o
  | .mp i => .mp i
def subL (r : Nat) (es : List (List D)) : List AV → List AV
  | [] => []
  | x :: l => x.sub r es :: subL r es l
end
theorem subL_eq (r : Nat) (es : List (List D)) : ∀ l, subL r es l = l.map (AV.sub r es)
  | [] => by simp [subL]
  | x :: l => by simp [subL, subL_eq r es l]
theorem VRel.step {X X' : Cx} (hk : Keeps X.own X.w X'.own X'.w) (hn : X.n ≤ X'.n) (hb : ∀ i, i < X.n → X'.b i = X.b i ∧ X'.c i = X.c i ∧ X'.z i = X.z i ∧ X'.rw i = X.rw i) {av : AV} {v : Value} (h : VRel X av v) : VRel X' av v := by
  induction h with
  | d h => exact .d (h.mono hk)
  | nl => exact .nl
  | @vw r n h hz hc =>
    obtain ⟨e1, e2, e3, _⟩ := hb r h
    rw [← e1, ← e2]; exact .vw (Nat.lt_of_lt_of_le h hn) (e3.trans hz) (by rw [e2]; exact hc)
  | @vz r h hz => exact .vz (Nat.lt_of_lt_of_le h hn) ((hb r h).2.2.1.trans hz)
  | @rf i off h hr => rw [← (hb i h).1]; exact .rf (Nat.lt_of_lt_of_le h hn) ((hb i h).2.2.2.trans hr)
  | @rp r sz i off h => rw [← (hb r h).1]; exact .rp (Nat.lt_of_lt_of_le h hn)
  | @ep c b off g h1 h2 h3 =>
    exact .ep g (fun h0 => (hk.keep b (cell_lt (h2 0 h0)) (h1 h0)).2) (fun j hj => (hk.cell (a := ⟨b, off + j, none⟩) (h1 (Nat.lt_of_le_of_lt (Nat.zero_le _) hj)) (h2 j hj)).1) (fun j hj => (h3 j hj).mono hk)
  | @mp i h hr => rw [← (hb i h).1]; exact .mp (Nat.lt_of_lt_of_le h hn) ((hb i h).2.2.2.trans hr)
  | ag hl _ ih => exact .ag hl ih
  | tp hl _ ih => exact .tp hl ih
  | fn h1 h2 _ _ ih1 ih2 => exact .fn h1 h2 ih1 ih2
  | opt _ ih => exact .opt ih
  | jk => exact .jk
theorem VRel.kill {X X' : Cx} (r : Nat) (hrw : X.rw r = true) (hk : Keeps X.own X.w X'.own X'.w) (hn : X.n ≤ X'.n) (hb : ∀ i, i < X.n → i ≠ r → X'.b i = X.b i ∧ X'.c i = X.c i ∧ X'.z i = X.z i ∧ X'.rw i = X.rw i) {av : AV} {v : Value} (h : VRel X av v) :
    VRel X' (av.kill r) v := by
  induction h with
  | d h => simp only [AV.kill]; exact .d (h.mono hk)
  | nl => exact .nl
  | @vw i n h hz hc =>
    simp only [AV.kill]; split
    · exact .jk
    · rename_i hi
      obtain ⟨e1, e2, e3, _⟩ := hb i h hi
      rw [← e1, ← e2]; exact .vw (Nat.lt_of_lt_of_le h hn) (e3.trans hz) (by rw [e2]; exact hc)
  | @vz i h hz =>
    simp only [AV.kill]; split
    · exact .jk
    · rename_i hi; exact .vz (Nat.lt_of_lt_of_le h hn) ((hb i h hi).2.2.1.trans hz)
  | @rf i off h hr =>
    have hi : i ≠ r := fun e => by rw [e, hrw] at hr; cases hr
    simp only [AV.kill]; rw [← (hb i h hi).1]; exact .rf (Nat.lt_of_lt_of_le h hn) ((hb i h hi).2.2.2.trans hr)
  | @rp i sz k off h =>
    simp only [AV.kill]; split
    · exact .jk
    · rename_i hi; rw [← (hb i h hi).1]; exact .rp (Nat.lt_of_lt_of_le h hn)
  | @ep c b off g h1 h2 h3 =>
    simp only [AV.kill]
    exact .ep g (fun h0 => (hk.keep b (cell_lt (h2 0 h0)) (h1 h0)).2) (fun j hj => (hk.cell (a := ⟨b, off + j, none⟩) (h1 (Nat.lt_of_le_of_lt (Nat.zero_le _) hj)) (h2 j hj)).1) (fun j hj => (h3 j hj).mono hk)
  | @mp i h hr =>
    have hi : i ≠ r := fun e => by rw [e, hrw] at hr; cases hr
    simp only [AV.kill]; rw [← (hb i h hi).1]; exact .mp (Nat.lt_of_lt_of_le h hn) ((hb i h hi).2.2.2.trans hr)
  | ag hl _ ih => simp only [AV.kill]; exact .ag (by simp [killL_eq, hl]) (fun j hj => by simp only [killL_eq, List.length_map] at hj; simp only [killL_eq, List.getElem_map]; exact ih j hj)
  | tp hl _ ih => simp only [AV.kill]; exact .tp (by simp [killL_eq, hl]) (fun j hj => by simp only [killL_eq, List.length_map] at hj; simp only [killL_eq, List.getElem_map]; exact ih j hj)
  | fn h1 h2 _ _ ih1 ih2 =>
    simp only [AV.kill]
    exact .fn (by simp [killL_eq, h1]) (by simp [killL_eq, h2]) (fun j hj => by simp only [killL_eq, List.length_map] at hj; simp only [killL_eq, List.getElem_map]; exact ih1 j hj)
      (fun j hj => by simp only [killL_eq, List.length_map] at hj; simp only [killL_eq, List.getElem_map]; exact ih2 j hj)
  | opt _ ih => simp only [AV.kill]; exact .opt ih
  | jk => simp only [AV.kill]; exact .jk
def Ob.killO (r : Nat) : Ob → Ob
  | .box cs => .box (killL r cs)
  | .gh cs => .gh (killL r cs)
  | x => x
def Ob.subO (r : Nat) (es : List (List D)) : Ob → Ob
  | .box cs => .box (subL r es cs)
  | .gh cs => .gh (subL r es cs)
  | x => x
structure S where
  t : List AV
  o : List Ob
structure O0 where
  own : Nat → Prop
  ext : Nat → Prop
  -- the values of the slots of callers that wait
  gv : Nat → List Value
def GhRel (X : Cx) (o : List Ob) (gv : Nat → List Value) : Prop := ∀ (k : Nat) (cs : List AV), o[k]? = some (Ob.gh cs) → cs.length = (gv k).length ∧ ∀ (j : Nat) (h : j < cs.length), VRel X cs[j] ((gv k).getD j undef)
structure SRel (w0 : World) (own0 : O0) (X : Cx) (s : S) (a : Act) : Prop where
  len : a.tmps.size = s.t.length
  slot : ∀ (i : Nat) (h : i < s.t.length), VRel X s.t[i] (a.tmps.getD i undef)
  defers : a.defers = []
  g : GRel X s.o
  ext : X.ext = own0.ext
  fr : Fr w0 own0.own X.w
  new : ∀ b, X.obj b → own0.own b ∨ w0.heap.size ≤ b
  gh : GhRel X s.o own0.gv
  tab : Tabs (fun b => own0.own b ∨ own0.ext b) w0
def Weak (s s1 : S) : Prop := ∀ (w0 : World) (own0 : O0) (X : Cx) (a : Act), SRel w0 own0 X s a → ∃ X', X'.w = X.w ∧ SRel w0 own0 X' s1 a
theorem Weak.refl (s : S) : Weak s s := fun _ _ X _ h => ⟨X, rfl, h⟩
theorem Weak.trans {s1 s2 s3 : S} (h : Weak s1 s2) (k : Weak s2 s3) : Weak s1 s3 := fun w0 own0 X a hs => by
  obtain ⟨X1, e1, h1⟩ := h w0 own0 X a hs
  obtain ⟨X2, e2, h2⟩ := k w0 own0 X1 a h1
  exact ⟨X2, e2.trans e1, h2⟩
end Go.AM
