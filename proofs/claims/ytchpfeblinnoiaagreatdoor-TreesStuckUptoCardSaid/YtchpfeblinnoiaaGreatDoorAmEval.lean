import Derived.Test.YtchpfeblinnoiaaGreatDoorAmCore
set_option linter.unusedVariables false
namespace Go.AM
open Go.RowKit
inductive Kd where
  | bool | int (k : IntKind) | str | slice (e : TypeId) | ptr (e : TypeId) | map (k e : TypeId) | struct (fs : List (Nat × TypeId)) | array (n : Nat) (e : TypeId) | func | other
structure TK where
  agg : Bool
  sz : Nat
  bytes : Nat
  zero : List AV
  kd : Kd
  -- a struct that may be compared, by its fields
  cmp : Bool := false
  -- maps of this type are told by a term from the beginning
  sym : Bool := false
  -- regions whose order is open are run by a schedule
  run : Bool := false
  -- behind the regions of these numbers the state is told anew
  cuts : List Nat := []
def runK (K : TypeId → Option TK) : TypeId → Option TK := fun t => match K t with
  | some i => some { i with run := true }
  | none => none
def runOf (K : TypeId → Option TK) (t : TypeId) : Bool := match K t with | some i => i.run | none => false
abbrev Q1 := AV → List Ob → Option Nat → Prop
abbrev Ent := List AV → List Ob → Q1 → Prop
def S.ev (s : S) : Operand → AV
  | .tmp t => s.t.getD t .jk
  | .const v => if plainV v then .d (.v v) else match v with | .slice none 0 0 => .nl | _ => .jk
  | .global _ => .jk
  | .func f => .fn (.func f) [] []
def S.put (s : S) (dst : Option Tmp) (v : AV) : S := match dst with | some d => ⟨s.t.set d v, s.o⟩ | none => s
def killT (k : Option Nat) (t : List AV) : List AV := match k with | some r => killL r t | none => t
mutual
def AV.toD (o : List Ob) : AV → Option D
  | .d x => some x
  | .nl => some (.sl [])
  | .vw r n => match o[r]? with | some (.row _ es) => some (.sl (es.take n)) | _ => none
  | .fn f fs cs => match toDL o fs, toDL o cs with | some a, some b => some (.fn f a b) | _, _ => none
  | _ => none
def toDL (o : List Ob) : List AV → Option (List D)
  | [] => some []
  | x :: l => match x.toD o, toDL o l with | some a, some b => some (a :: b) | _, _ => none
end
def powOf (o : List Ob) : AV → Option (List AV)
  | .vw r n => match o[r]? with
    | some (.pow es) => some (es.take n)
    | _ => none
  | _ => none
def leafP (o : List Ob) (x : AV) : Option AV := match x.toD o with | some d => some (.d d) | none => none
mutual
def AV.pure (o : List Ob) : AV → Option AV
  | .ag cs => match pureL o cs with | some l => some (.ag l) | none => none
  | .tp cs => match pureL o cs with | some l => some (.tp l) | none => none
  | x => leafP o x
def pureL (o : List Ob) : List AV → Option (List AV)
  | [] => some []
  | x :: l => match x.pure o, pureL o l with | some a, some b => some (a :: b) | _, _ => none
end
mutual
def AV.views : AV → Bool
  | .vw _ _ => true
  | .ag cs => viewsL cs
  | .tp cs => viewsL cs
  | .fn _ fs cs => viewsL fs || viewsL cs
  | .opt _ x => x.views
  | _ => false
def viewsL : List AV → Bool
  | [] => false
  | x :: l => x.views || viewsL l
end
mutual
def AV.rows : AV → List Nat
  | .vw r _ => [r]
  | .ag cs => rowsL cs
  | .tp cs => rowsL cs
  | .fn _ fs cs => rowsL fs ++ rowsL cs
  | .opt _ x => x.rows
  | _ => []
def rowsL : List AV → List Nat
  | [] => []
  | x :: l => x.rows ++ rowsL l
end
def S.sealR (s : S) (r : Nat) : S := match s.o[r]? with
  | some (.row _ es) => ⟨subL r es s.t, (s.o.map (Ob.subO r es)).set r .gone⟩
  | _ => s
def sealAll : List Nat → S → S
  | [], s => s
  | r :: l, s => sealAll l (s.sealR r)
def AV.scalar : AV → Bool
  | .d (.v _) => true
  | .tp l => l.all fun | .d (.v _) => true | _ => false
  | .ag l => l.all fun | .d (.v _) => true | _ => false
  | _ => false
def bcase (b : Bool) (x y : Prop) : Prop := match b with | true => x | false => y
theorem bcase_iff {b : Bool} {x y : Prop} : bcase b x y ↔ (b = true → x) ∧ (b = false → y) := by cases b <;> simp [bcase]
theorem bcase_mk {b : Bool} {x y : Prop} (h : b = true → x) (h' : b = false → y) : bcase b x y := bcase_iff.2 ⟨h, h'⟩
theorem bcase_t {b : Bool} {x y : Prop} (h : bcase b x y) (hb : b = true) : x := (bcase_iff.1 h).1 hb
theorem bcase_f {b : Bool} {x y : Prop} (h : bcase b x y) (hb : b = false) : y := (bcase_iff.1 h).2 hb
def chk (b : Bool) (x : Prop) : Prop := match b with | true => x | false => False
theorem chk_iff {b : Bool} {x : Prop} : chk b x ↔ b = true ∧ x := by cases b <;> simp [chk]
def pureE (E : List AV → (AV → Prop) → Prop) : Ent := fun args o q =>
  match pureL o args with
  | some l => E l fun r => chk (!viewsL args || r.scalar) (q r o none)
  | none => False
def detE (F : List AV → Option (Prop × AV)) : List AV → (AV → Prop) → Prop := fun l q =>
  match F l with
  | some (p, r) => p ∧ q r
  | none => False
def cellsOfAV : AV → List AV
  | .ag cs => cs
  | x => [x]
def AV.isAg : AV → Bool
  | .ag _ => true
  | _ => false
mutual
def AV.shift (n : Nat) : AV → AV
  | .vw r k => .vw (n + r) k
  | .rf i o => .rf (n + i) o
  | .rp i s k o => .rp (n + i) s k o
  | .mp i => .mp (n + i)
  | .ag cs => .ag (shiftL n cs)
  | .tp cs => .tp (shiftL n cs)
  | .fn f fs cs => .fn f (shiftL n fs) (shiftL n cs)
  | .opt b x => .opt b (x.shift n)
  | .d x => .d x
  | .nl => .nl
  | .ep c => .ep c
  | .jk => .jk
def shiftL (n : Nat) : List AV → List AV
  | [] => []
  | x :: l => x.shift n :: shiftL n l
end
def Ob.shift (n : Nat) : Ob → Ob
  | .box cs => .box (shiftL n cs)
  | .row sz es => .row sz es
  | .map kk ents => match kk.isSy with
    | true => .map kk ents
    | false => .map kk (ents.map fun e => (e.1, e.2.shift n))
  | .gone => .gone
  | .gh _ => .gone
  | .pow es => .pow (shiftL n es)
  | .bun R => .bun R
def newE (E : List AV → (AV → List Ob → Prop) → Prop) : Ent := fun args o q =>
  match pureL o args with
  | some l => chk (!viewsL args) <| E l fun av os => q (av.shift o.length) (o ++ os.map (Ob.shift o.length)) none
  | none => False
inductive En where
  | pure (E : List AV → (AV → Prop) → Prop)
  | det (F : List AV → Option (Prop × AV))
  | full (E : Ent)
  | ref (E : List AV → List Ob → (AV → List Ob → Prop) → Prop)
  -- it makes objects, and touches none
  | new (E : List AV → (AV → List Ob → Prop) → Prop)
def En.ent : En → Ent
  | .ref _ => fun _ _ _ => False
  | .pure E => pureE E
  | .det F => pureE (detE F)
  | .full E => E
  | .new E => newE E
def AV.cell : AV → Bool
  | .d _ | .nl | .vw _ _ | .rf _ _ | .mp _ | .fn _ _ _ => true
  | _ => false
def splice (cs : List AV) (off : Nat) (vs : List AV) : List AV := cs.take off ++ vs ++ cs.drop (off + vs.length)
def spliceD (cs : List D) (off : Nat) (vs : List D) : List D := cs.take off ++ vs ++ cs.drop (off + vs.length)
def wholeD (sz : Nat) (cs : List D) (off : Nat) (vs : List D) : List D := match Nat.beq off 0 && Nat.beq vs.length sz with
  | true => vs
  | false => spliceD cs off vs
theorem wholeD_eq {sz off : Nat} {cs vs : List D} (h : cs.length = sz) : wholeD sz cs off vs = spliceD cs off vs := by
  unfold wholeD
  split
  · rename_i hh
    simp only [Bool.and_eq_true] at hh
    have h1 := Nat.eq_of_beq_eq_true hh.1
    have h2 := Nat.eq_of_beq_eq_true hh.2
    subst h1
    simp [spliceD, h2, h]
  · rfl
def strip (x : AV) (k : AV → Prop) : Prop := k x
def mkI (k : IntKind) (n : Int) : AV := .d (.v (.int k n))
def mkB (b : Bool) : AV := .d (.v (.bool b))
def mkS (s : ByteArray) : AV := .d (.v (.string s))
def andZ (k : IntKind) (a b : Int) : Int := k.wrap ((BitVec.ofInt k.bits a &&& BitVec.ofInt k.bits b).toNat)
def orZ (k : IntKind) (a b : Int) : Int := k.wrap ((BitVec.ofInt k.bits a ||| BitVec.ofInt k.bits b).toNat)
def aInt (op : BinOp) (ka : IntKind) (a : Int) (kb : IntKind) (b : Int) (k : AV → Prop) : Prop :=
  chk (decide (ka = kb)) <| match op with
  | .add => k (.d (.v (.int ka (ka.wrap (a + b)))))
  | .sub => k (.d (.v (.int ka (ka.wrap (a - b)))))
  | .mul => k (.d (.v (.int ka (ka.wrap (a * b)))))
  | .quo => b ≠ 0 ∧ k (.d (.v (.int ka (ka.wrap (a.tdiv b)))))
  | .rem => b ≠ 0 ∧ k (.d (.v (.int ka (a.tmod b))))
  | .eql => k (.d (.v (.bool (a == b))))
  | .neq => k (.d (.v (.bool (a != b))))
  | .lss => k (.d (.v (.bool (decide (a < b)))))
  | .leq => k (.d (.v (.bool (decide (a ≤ b)))))
  | .gtr => k (.d (.v (.bool (decide (a > b)))))
  | .geq => k (.d (.v (.bool (decide (a ≥ b)))))
  | .and => k (.d (.v (.int ka (andZ ka a b))))
  | .or => k (.d (.v (.int ka (orZ ka a b))))
  | _ => False
def aStr (op : BinOp) (a b : ByteArray) (k : AV → Prop) : Prop :=
  match op with
  | .add => a.size + b.size ≤ LIM ∧ k (.d (.v (.string (a ++ b))))
  | .eql => k (.d (.v (.bool (decide (a = b)))))
  | .neq => k (.d (.v (.bool (!decide (a = b)))))
  | .lss => k (.d (.v (.bool (Op.bytesLess a.toList b.toList))))
  | .leq => k (.d (.v (.bool (Op.bytesLess a.toList b.toList || decide (a = b)))))
  | .gtr => k (.d (.v (.bool (!(Op.bytesLess a.toList b.toList || decide (a = b))))))
  | .geq => k (.d (.v (.bool (!Op.bytesLess a.toList b.toList))))
  | _ => False
def Kd.isStr : Kd → Bool
  | .str => true
  | _ => false
def kkOf (K : TypeId → Option TK) (t : TypeId) : Option KK := match K t with
  | some i => match i.kd with
    | .str => some .str
    | .int k => some (.int k)
    | .array n e => match K e with
      | some k => if (decide (n = 2) && decide (k.sz = 1) && k.kd.isStr) = true then some (.strs 2) else none
      | none => none
    | _ => none
  | none => none
def kdOf (K : TypeId → Option TK) (t : TypeId) : Option Kd := match K t with | some i => some i.kd | none => none
def symOf (K : TypeId → Option TK) (t : TypeId) : Bool := match K t with | some i => i.sym | none => false
inductive KdT where
  | bool | func | ptr | map | str | slice
def Kd.isT : KdT → Kd → Bool
  | .bool, .bool => true
  | .func, .func => true
  | .ptr, .ptr _ => true
  | .map, .map _ _ => true
  | .str, .str => true
  | .slice, .slice _ => true
  | _, _ => false
def isKd (K : TypeId → Option TK) (t : TypeId) (p : KdT) : Bool := match K t with | some i => i.kd.isT p | none => false
section
variable (K : TypeId → Option TK)
def eqCells : List (Nat × TypeId) → List AV → List AV → Option Bool
  | [], _, _ => some true
  | (off, ft) :: l, xs, ys => match xs.getD off .jk, ys.getD off .jk, kdOf K ft with
    | .d (.v (.string a)), .d (.v (.string b)), some .str => (eqCells l xs ys).map fun r => decide (a = b) && r
    | .d (.v (.int j a)), .d (.v (.int j' b)), some (.int _) => if j = j' then (eqCells l xs ys).map fun r => (a == b) && r else none
    | .d (.v (.bool a)), .d (.v (.bool b)), some .bool => (eqCells l xs ys).map fun r => (a == b) && r
    | _, _, _ => none
def aBin (op : BinOp) (t : TypeId) (x y : AV) (k : AV → Prop) : Prop :=
  match x, y with
  | .ag xs, .ag ys => match K t with
    | some i => match i.kd with
      | .struct fs => chk i.cmp <| match eqCells K fs xs ys with
        | some r => match op with
          | .eql => k (.d (.v (.bool r)))
          | .neq => k (.d (.v (.bool (!r))))
          | _ => False
        | none => False
      | _ => False
    | none => False
  | .d (.v (.int ka a)), .d (.v (.int kb b)) => aInt op ka a kb b k
  | .d (.v (.string a)), .d (.v (.string b)) => aStr op a b k
  | .d (.v (.bool a)), .d (.v (.bool b)) => chk (isKd K t .bool) <| match op with
    | .eql => k (.d (.v (.bool (a == b))))
    | .neq => k (.d (.v (.bool (!(a == b)))))
    | _ => False
  | .fn _ _ _, .d (.v .nilFunc) => chk (isKd K t .func) <| match op with
    | .eql => k (.d (.v (.bool false)))
    | .neq => k (.d (.v (.bool true)))
    | _ => False
  | .d (.fn _ _ _), .d (.v .nilFunc) => chk (isKd K t .func) <| match op with
    | .eql => k (.d (.v (.bool false)))
    | .neq => k (.d (.v (.bool true)))
    | _ => False
  | .d (.v .nilFunc), .d (.v .nilFunc) => chk (isKd K t .func) <| match op with
    | .eql => k (.d (.v (.bool true)))
    | .neq => k (.d (.v (.bool false)))
    | _ => False
  | .rf _ _, .d (.v (.pointer none)) => chk (isKd K t .ptr) <| match op with
    | .eql => k (.d (.v (.bool false)))
    | .neq => k (.d (.v (.bool true)))
    | _ => False
  | .d (.v (.pointer (some _))), .d (.v (.pointer none)) => chk (isKd K t .ptr) <| match op with
    | .eql => k (.d (.v (.bool false)))
    | .neq => k (.d (.v (.bool true)))
    | _ => False
  | .d (.v (.map (some _))), .d (.v (.map none)) => chk (isKd K t .map) <| match op with
    | .eql => k (.d (.v (.bool false)))
    | .neq => k (.d (.v (.bool true)))
    | _ => False
  | .d (.v (.pointer none)), .d (.v (.pointer none)) => chk (isKd K t .ptr) <| match op with
    | .eql => k (.d (.v (.bool true)))
    | .neq => k (.d (.v (.bool false)))
    | _ => False
  | .vw _ n, .nl => chk (isKd K t .slice) <| 0 < n ∧ match op with
    | .eql => k (.d (.v (.bool false)))
    | .neq => k (.d (.v (.bool true)))
    | _ => False
  | .mp _, .d (.v (.map none)) => chk (isKd K t .map) <| match op with
    | .eql => k (.d (.v (.bool false)))
    | .neq => k (.d (.v (.bool true)))
    | _ => False
  | .d (.v (.map none)), .d (.v (.map none)) => chk (isKd K t .map) <| match op with
    | .eql => k (.d (.v (.bool true)))
    | .neq => k (.d (.v (.bool false)))
    | _ => False
  | _, _ => False
def SzOk (e : TypeId) (es : List (List D)) : Prop := match K e with | some i => ∀ c ∈ es, c.length = i.sz | none => False
def stripL : List AV → (List AV → Prop) → Prop
  | [], k => k []
  | x :: l, k => strip x fun y => stripL l fun ys => k (y :: ys)
def minL (m : Int → Int → Int) (ik : IntKind) : Int → List AV → (Int → Prop) → Prop
  | a, [], k => k a
  | a, .d (.v (.int j b)) :: l, k => j = ik ∧ minL m ik (m a b) l k
  | _, _ :: _, _ => False
def bytesD (b : ByteArray) : List (List D) := b.data.toList.map fun x => [.v (.int .u8 x.toNat)]
def byteOfD : List D → UInt8
  | [.v (.int _ n)] => n.toNat.toUInt8
  | _ => 0
def unB (es : List (List D)) : ByteArray := ⟨(es.map byteOfD).toArray⟩
def u8K (K : TypeId → Option TK) (t : TypeId) : Bool := match kdOf K t with
  | some (.slice e) => match kdOf K e with | some (.int .u8) => true | _ => false
  | _ => false
def sliceZ : Option Operand → Option Operand → Bool
  | none, some (.const (.int _ (.ofNat 0))) => true
  | _, _ => false
def sealRead : Op → Bool
  | .convert .. | .load .. => true
  | _ => false
def ownRead (s : S) : Op → Bool
  | .call c => c.args.toList.any fun x => match s.ev x with | .mp _ => true | .d (.v (.map (some _))) => true | _ => false
  | .convert _ _ x => match s.ev x with | .vw _ _ => true | _ => false
  | .load _ x => match s.ev x with | .ep _ => false | _ => true
  | _ => false
def intA : AV → Int | .d (.v (.int _ n)) => n | _ => 0
def strA : AV → ByteArray | .d (.v (.string s)) => s | _ => ⟨#[]⟩
def AV.isStr : AV → Bool | .d (.v (.string _)) => true | _ => false
def findF : List Ob → Nat → Option (Nat × FamD)
  | [], _ => none
  | .bun R :: l, i => match R.tag with
    | some f => some (i, f)
    | none => findF l (i + 1)
  | _ :: l, i => findF l (i + 1)
def zsOf : List Ob → List FrZ
  | [] => []
  | .bun R :: l => R.fz ++ zsOf l
  | _ :: l => zsOf l
def anyZ : List FrZ → FrZ → Prop
  | [], _ => False
  | [a], Z => a = Z
  | a :: l, Z => a = Z ∨ anyZ l Z
def fdsOf : List Ob → List (FrZ × List Nat)
  | [] => []
  | .bun R :: l => match R.fd with
    | some x => x :: fdsOf l
    | none => fdsOf l
  | _ :: l => fdsOf l
def itOf : List Ob → Option ItD
  | [] => none
  | .bun R :: l => match R.it with
    | some d => some d
    | none => itOf l
  | _ :: l => itOf l
def anyD : List (FrZ × List Nat) → ItD → Prop
  | [(Z, dl)], d => Z = d.Z ∧ ∀ n, n ∈ dl → n ∈ d.vis
  | _, _ => False
def anyE : List (FrZ × List Nat) → ItD → Prop
  | [(Z, dl)], d => Z = d.Z ∧ ∀ n l, d.vis = n :: l → n ∉ dl
  | _, _ => False
def stillP (o : List Ob) (d : ItD) : Prop := match fdsOf o with
  | [] => anyZ (zsOf o) d.Z
  | l => anyD l d
def stillE (o : List Ob) (d : ItD) : Prop := match fdsOf o with
  | [] => anyZ (zsOf o) d.Z
  | l => anyE l d
def exVal : VK → AV → (AV → Prop) → Prop
  | .str, v, p => ∃ s : ByteArray, v = .d (.v (.string s)) ∧ p (.d (.v (.string s)))
  | .int k, v, p => ∃ n : Int, v = .d (.v (.int k n)) ∧ p (.d (.v (.int k n)))
  | .map, v, p => ∃ b : Nat, v = .d (.v (.map (some b))) ∧ p (.d (.v (.map (some b))))
  | .ptr, v, p => ∃ b : Nat, v = .d (.v (.pointer (some ⟨b, 0, none⟩))) ∧ p (.d (.v (.pointer (some ⟨b, 0, none⟩))))
def exKy : Bool → Key → (AV → Prop) → Prop
  | false, _, p => p .jk
  | true, k, p => ∃ d : ByteArray, k = .s d ∧ d.size ≤ LIM ∧ p (.d (.v (.string d)))
def isV (k : VK) (v : AV) : Prop := exVal k v fun _ => True
def entsF (sh : Shp) (l : List (Key × Nat × Rec)) : List (Key × AV) := l.map fun e => (e.1, .d (.v (sh.ref e.2.1)))
def recF (b : Nat) : List (Key × Nat × Rec) → Option Rec
  | [] => none
  | e :: l => if e.2.1 = b then some e.2.2 else recF b l
def blkF (ky : Key) : List (Key × Nat × Rec) → Option Nat
  | [] => none
  | e :: l => if e.1 = ky then some e.2.1 else blkF ky l
def hasF (ky : Key) (l : List (Key × Nat × Rec)) : Bool := (blkF ky l).isSome
def delF (ky : Key) : List (Key × Nat × Rec) → List (Key × Nat × Rec)
  | [] => []
  | e :: l => if e.1 = ky then l else e :: delF ky l
def putM (b : Nat) (r : Rec) : List (Key × Nat × Rec) → List (Key × Nat × Rec)
  | [] => []
  | e :: l => if e.2.1 = b then (e.1, e.2.1, r) :: l else e :: putM b r l
def newF (b : Nat) (l : List (Key × Nat × Rec)) : Prop := ∀ e ∈ l, e.2.1 ≠ b
def cellsR : List FK → Rec → Nat → List AV
  | [], _, _ => []
  | .int k :: l, r, j => .d (.v (.int k (r.i j))) :: cellsR l r (j + 1)
  | .str :: l, r, j => .d (.v (.string (r.s j))) :: cellsR l r (j + 1)
def fitK : Option FK → AV → Bool
  | some (.int k), .d (.v (.int j _)) => decide (j = k)
  | some .str, .d (.v (.string _)) => true
  | _, _ => false
def fitL : List FK → List AV → Bool
  | [], [] => true
  | k :: l, x :: r => fitK (some k) x && fitL l r
  | _, _ => false
def Rec.put (r : Rec) (off : Nat) : AV → Rec
  | .d (.v (.int _ n)) => { r with i := fun j => match Nat.beq j off with | true => n | false => r.i j }
  | .d (.v (.string x)) => { r with s := fun j => match Nat.beq j off with | true => x | false => r.s j }
  | _ => r
def aPure (s : S) : Op → (AV → Prop) → Prop
  | .move x, k => strip (s.ev x) k
  | .binOp op t x y _, k => strip (s.ev x) fun a => strip (s.ev y) fun b => aBin K op t a b k
  | .unOp op _ x, k => strip (s.ev x) fun a => match op, a with
    | .not, .d (.v (.bool b)) => k (.d (.v (.bool !b)))
    | .neg, .d (.v (.int i n)) => k (.d (.v (.int i (i.wrap (0 - n)))))
    | _, _ => False
  | .extract x i, k => strip (s.ev x) fun a => match a with | .tp vs => chk (decide (i < vs.length)) (k (vs.getD i .jk)) | _ => False
  | .index t x i, k => strip (s.ev x) fun a => strip (s.ev i) fun b => match a, b, kdOf K t with
    | .d (.v (.string s)), .d (.v (.int _ n)), some .str => (0 ≤ n ∧ n < s.size) ∧ k (.d (.v (.int .u8 ((s.data.toList.getD n.toNat 0).toNat))))
    | .ag cs, .d (.v (.int _ n)), some (.array len e) => match K e with
      | some j => chk (!j.agg && (j.sz == 1) && decide (len = cs.length)) ((0 ≤ n ∧ n < len) ∧ match cs.all AV.isStr with | true => k (.d (.v (.string (strA (cs.getD n.toNat .jk))))) | false => k (cs.getD n.toNat .jk))
      | none => False
    | _, _, _ => False
  | .convert a b x, k => strip (s.ev x) fun v => match v, kdOf K b with
    | .d (.v (.int _ n)), some (.int j) => chk (K a).isSome (k (.d (.v (.int j (j.wrap n)))))
    | .d (.v (.int _ n)), some .str => chk (K a).isSome (k (.d (.v (.string (Utf8.encode n)))))
    | .d (.v (.string s)), some .str => chk (isKd K a .str) (k (.d (.v (.string s))))
    | .d (.sl es), some .str => chk (u8K K a) (es = bytesD (unB es) ∧ k (.d (.v (.string (unB es)))))
    | .nl, some .str => chk (u8K K a) (k (.d (.v (.string ⟨#[]⟩))))
    | .vw r n, some .str => chk (u8K K a) <| match s.o[r]? with
      | some (.row _ es) => es.take n = bytesD (unB (es.take n)) ∧ k (.d (.v (.string (unB (es.take n)))))
      | _ => False
    | _, _ => False
  | .call c, k => match c.callee with
    | .builtin .len => match c.args.toList, c.argTypes.toList with
      | [x], [t] => strip (s.ev x) fun a => match a, kdOf K t with
        | .d (.sl es), some (.slice _) => es.length ≤ LIM → k (.d (.v (.int .i64 es.length)))
        | .d (.v (.string b)), some .str => b.size ≤ LIM → k (.d (.v (.int .i64 b.size)))
        | .vw _ n, some (.slice _) => k (.d (.v (.int .i64 n)))
        | .nl, some (.slice _) => k (.d (.v (.int .i64 0)))
        | .mp i, some (.map _ _) => match s.o[i]? with
          | some (.map _ ents) => k (.d (.v (.int .i64 ents.length)))
          | some (.bun R) => match R.tag with | some f => k (.d (.v (.int .i64 f.l.length))) | none => False
          | _ => False
        | .d (.v (.map none)), some (.map _ _) => k (.d (.v (.int .i64 0)))
        | .d (.v (.map (some b))), some (.map _ _) => match findF s.o 0 with
          | some (_, f) => match f.sh with
            | .map _ => ∃ r, recF b f.l = some r ∧ k (.d (.v (.int .i64 r.m.length)))
            | .box _ => False
          | none => False
        | _, _ => False
      | _, _ => False
    | .builtin .min => stripL (c.args.toList.map s.ev) fun l => match l with
      | .d (.v (.int j a)) :: r => minL (fun x y => if y < x then y else x) j a r fun n => k (.d (.v (.int j n)))
      | _ => False
    | .builtin .max => stripL (c.args.toList.map s.ev) fun l => match l with
      | .d (.v (.int j a)) :: r => minL (fun x y => if y > x then y else x) j a r fun n => k (.d (.v (.int j n)))
      | _ => False
    | _ => False
  | .slice t x lo hi none, k => strip (s.ev x) fun a => match a, lo.map s.ev, hi.map s.ev, kdOf K t with
    | .d (.v (.string b)), none, some (.d (.v (.int _ h))), some .str => (0 ≤ h ∧ h ≤ b.size) ∧ k (.d (.v (.string (b.extract 0 h.toNat))))
    | .d (.v (.string b)), some (.d (.v (.int _ l))), none, some .str => (0 ≤ l ∧ l ≤ b.size) ∧ k (.d (.v (.string (b.extract l.toNat b.size))))
    | .d (.v (.string b)), some (.d (.v (.int _ l))), some (.d (.v (.int _ h))), some .str => (0 ≤ l ∧ l ≤ h ∧ h ≤ b.size) ∧ k (.d (.v (.string (b.extract l.toNat h.toNat))))
    | .d (.sl es), none, some (.d (.v (.int _ h))), some (.slice e) => (0 ≤ h ∧ h ≤ es.length) ∧ chk (K e).isSome (k (.d (.sl (es.take h.toNat))))
    | .d (.sl es), some (.d (.v (.int _ l))), none, some (.slice e) => (0 ≤ l ∧ l ≤ es.length) ∧ SzOk K e es ∧ k (.d (.sl (es.drop l.toNat)))
    | .d (.sl es), some (.d (.v (.int _ l))), some (.d (.v (.int _ h))), some (.slice e) => (0 ≤ l ∧ l ≤ h ∧ h ≤ es.length) ∧ SzOk K e es ∧ k (.d (.sl ((es.take h.toNat).drop l.toNat)))
    | _, _, _, _ => False
  | .field t x f, k => strip (s.ev x) fun a => match a, kdOf K t with
    | .ag cs, some (.struct fs) => match fs[f]? with
      | some (off, ft) => match K ft with
        | some i => if i.agg then chk (decide (off + i.sz ≤ cs.length)) (k (.ag ((cs.drop off).take i.sz))) else chk (decide (off < cs.length)) (k (cs.getD off .jk))
        | none => False
      | none => False
    | _, _ => False
  | .makeFunc fn first caps, k => stripL (first.toList.map s.ev) fun a => stripL (caps.toList.map s.ev) fun b => k (.fn fn a b)
  | .nilCheck x, k => strip (s.ev x) fun a => match a with
    | .rf i o => k (.rf i o)
    | .rp a b c d => k (.rp a b c d)
    | .ep c => k (.ep c)
    | .d (.v (.pointer (some ad))) => k (.d (.v (.pointer (some ad))))
    | .fn (.func f) a b => k (.fn (.func f) a b)
    | .d (.fn (.func f) a b) => k (.d (.fn (.func f) a b))
    | _ => False
  | _, _ => False
def isPureOp : Op → Bool
  | .convert _ t _ => match kdOf K t with | some (.slice _) => false | _ => true
  | .move _ | .binOp .. | .unOp .. | .extract .. | .index .. | .field .. | .makeFunc .. | .nilCheck _ => true
  | .call c => match c.callee with | .builtin .len | .builtin .min | .builtin .max => true | _ => false
  | _ => false
def ldAV (t : TypeId) (cs : List AV) (k : AV → Prop) : Prop :=
  match K t with
  | some i => if i.agg then chk (decide (i.sz ≤ cs.length)) (k (.ag (cs.take i.sz))) else match cs with | c :: _ => k c | [] => False
  | none => False
def d0 : D := .v (.string ⟨#[]⟩)
def strD : D → ByteArray | .v (.string s) => s | _ => ⟨#[]⟩
def intD : D → Int | .v (.int _ n) => n | _ => 0
def boolD : D → Bool | .v (.bool b) => b | _ => false
def slD : D → List (List D) | .sl es => es | _ => []
def decD (z : AV) (x : D) : AV := match z with
  | .d (.v (.string _)) => .d (.v (.string (strD x)))
  | .d (.v (.int k _)) => .d (.v (.int k (intD x)))
  | .d (.v (.bool _)) => .d (.v (.bool (boolD x)))
  | .nl => .d (.sl (slD x))
  | _ => .d x
def okD (z : AV) (x : D) : Prop := match z with
  | .d (.v (.string _)) => x = .v (.string (strD x))
  | .d (.v (.int k _)) => x = .v (.int k (intD x))
  | .d (.v (.bool _)) => x = .v (.bool (boolD x))
  | .nl => x = .sl (slD x)
  | _ => True
def decL : List AV → List D → List AV
  | [], _ => []
  | z :: zs, c => decD z (c.getD 0 d0) :: decL zs (c.drop 1)
def okL : List AV → List D → Prop
  | [], _ => True
  | z :: zs, c => okD z (c.getD 0 d0) ∧ okL zs (c.drop 1)
def ldD (t : TypeId) (cs : List D) (k : AV → Prop) : Prop :=
  match K t with
  | some i => chk (decide (i.zero.length = i.sz)) <| if i.agg then i.sz ≤ cs.length ∧ okL i.zero cs ∧ k (.ag (decL i.zero cs)) else match i.zero with
    | .d (.v (.pointer none)) :: _ => ∃ b, cs.getD 0 d0 = .v (.pointer (some ⟨b, 0, none⟩)) ∧ k (.d (.v (.pointer (some ⟨b, 0, none⟩))))
    | z :: _ => 1 ≤ cs.length ∧ okD z (cs.getD 0 d0) ∧ k (decD z (cs.getD 0 d0)) | [] => False
  | none => False
def findE : List (FuncId × En) → FuncId → Option En
  | [], _ => none
  | (f, e) :: l, g => if g = f then some e else findE l g
def sealRows (Γ : List (FuncId × En)) (s : S) : Op → List Nat
  | .store _ a x => match s.ev a with
    | .rp _ _ _ _ => (s.ev x).rows
    | _ => []
  | .buildSlice _ _ parts => rowsL (parts.toList.map fun p => s.ev p.2)
  | .mapUpdate _ _ _ x | .insert _ _ _ x => (s.ev x).rows
  | .call c => match c.callee with
    | .value f => match s.ev f with
      | .fn (.func f) first caps => match findE Γ f with
        | some (.pure _) | some (.full _) | some (.new _) => rowsL (first ++ c.args.toList.map s.ev ++ caps)
        | _ => []
      | _ => []
    | _ => []
  | _ => []
def fillD : List (List D) → List (Nat × AV) → List Ob → Option (List (List D))
  | acc, [], _ => some acc
  | acc, (i, v) :: l, o => match toDL o (cellsOfAV v) with
    | some c => fillD (acc.set i c) l o
    | none => none
def fillAV : List AV → List (Nat × AV) → (Nat → Option Nat) → Option (List AV)
  | acc, [], _ => some acc
  | acc, (i, v) :: l, off => match off i with
    | some k => fillAV (splice acc k (cellsOfAV v)) l off
    | none => none
def fillP : List AV → List (Nat × AV) → List AV
  | acc, [] => acc
  | acc, (i, v) :: l => fillP (acc.set i v) l
def strsOf : List AV → Option (List ByteArray)
  | [] => some []
  | .d (.v (.string s)) :: l => match strsOf l with | some r => some (s :: r) | none => none
  | _ :: _ => none
def keyOf : AV → Option Key
  | .ag l => match strsOf l with | some r => some (.ss r) | none => none
  | .d (.v (.string s)) => some (.s s)
  | .d (.v (.int k n)) => some (.i k n)
  | _ => none
def eqL : List ByteArray → List ByteArray → Bool
  | [], [] => true
  | a :: l, b :: r => decide (a = b) && eqL l r
  | _, _ => false
def Key.eqB : Key → Key → Bool
  | .s a, .s b => decide (a = b)
  | .i j m, .i k n => decide (j = k) && decide (m = n)
  | .ss l, .ss r => eqL l r
  | _, _ => false
theorem eqL_iff : ∀ {l r : List ByteArray}, eqL l r = true ↔ l = r
  | [], [] => by simp [eqL]
  | [], _ :: _ => by simp [eqL]
  | _ :: _, [] => by simp [eqL]
  | a :: l, b :: r => by simp [eqL, eqL_iff (l := l) (r := r)]
theorem Key.eqB_iff {a b : Key} : a.eqB b = true ↔ a = b := by cases a <;> cases b <;> simp [Key.eqB, eqL_iff]
def findKeyA (k : Key) : List (Key × AV) → Option AV
  | [] => none
  | (k', v) :: l => if k' = k then some v else findKeyA k l
def setKeyA (k : Key) (v : AV) : List (Key × AV) → List (Key × AV)
  | [] => [(k, v)]
  | (k', u) :: l => if k' = k then (k', v) :: l else (k', u) :: setKeyA k v l
def hasK (k : Key) (l : List (Key × AV)) : Bool := (findKeyA k l).isSome
def getS (k : Key) (l : List (Key × AV)) : ByteArray := match findKeyA k l with | some v => strA v | none => ⟨#[]⟩
def getO (k : Key) (l : List (Key × AV)) (z : AV) : AV := (findKeyA k l).getD z
def zeroA (agg : Bool) (zero : List AV) : AV := match agg with
  | true => .ag zero
  | false => match zero with
    | z :: _ => z
    | [] => .jk
def exA (z : AV) (k : AV → Prop) : Prop := match z with
  | .d (.v (.string _)) => ∃ s : ByteArray, k (.d (.v (.string s)))
  | .d (.v (.int i _)) => ∃ n : Int, k (.d (.v (.int i n)))
  | .d (.v (.bool _)) => ∃ b : Bool, k (.d (.v (.bool b)))
  | .nl => ∃ es : List (List D), k (.d (.sl es))
  | _ => False
def exL : List AV → (List AV → Prop) → Prop
  | [], k => k []
  | z :: zs, k => exA z fun x => exL zs fun l => k (x :: l)
def exK (agg : Bool) (zero : List AV) (k : AV → Prop) : Prop := match agg with
  | true => exL zero fun l => k (.ag l)
  | false => match zero with
    | z :: _ => exA z k
    | [] => False
theorem exA_spec {z : AV} {k : AV → Prop} (h : exA z k) : ∃ v, k v := by
  unfold exA at h
  split at h
  · obtain ⟨s, h⟩ := h; exact ⟨_, h⟩
  · obtain ⟨s, h⟩ := h; exact ⟨_, h⟩
  · obtain ⟨s, h⟩ := h; exact ⟨_, h⟩
  · obtain ⟨s, h⟩ := h; exact ⟨_, h⟩
  · exact h.elim
theorem exL_spec : ∀ {l : List AV} {k : List AV → Prop}, exL l k → ∃ v, k v
  | [], k, h => ⟨[], h⟩
  | z :: zs, k, h => by
    obtain ⟨x, h⟩ := exA_spec h
    obtain ⟨l, h⟩ := exL_spec h
    exact ⟨_, h⟩
theorem exK_spec {agg : Bool} {zero : List AV} {k : AV → Prop} (h : exK agg zero k) : ∃ v, k v := by
  unfold exK at h
  split at h
  · obtain ⟨l, h⟩ := exL_spec h; exact ⟨_, h⟩
  · split at h
    · exact exA_spec h
    · exact h.elim
def delKeyA (k : Key) : List (Key × AV) → List (Key × AV)
  | [] => []
  | (k', u) :: l => if k' = k then l else (k', u) :: delKeyA k l
def lkK (k : Key) : List (Key × AV) → (Option AV → Prop) → Prop
  | [], q => q none
  | (k', v) :: l, q => bcase (k'.eqB k) (q (some v)) (lkK k l q)
theorem lkK_find {k : Key} : ∀ {l : List (Key × AV)} {q : Option AV → Prop}, lkK k l q → q (findKeyA k l)
  | [], q, h => h
  | (k', v) :: l, q, h => by
    simp only [lkK] at h
    simp only [findKeyA]
    split
    · rename_i e; exact bcase_t h (Key.eqB_iff.2 e)
    · rename_i e
      refine lkK_find (bcase_f h ?_)
      cases hh : k'.eqB k
      · rfl
      · exact absurd (Key.eqB_iff.1 hh) e
def stK (k : Key) (v : AV) : List (Key × AV) → (List (Key × AV) → Prop) → Prop
  | [], q => q [(k, v)]
  | (k', u) :: l, q => bcase (k'.eqB k) (q ((k', v) :: l)) (stK k v l fun r => q ((k', u) :: r))
theorem stK_set {k : Key} {v : AV} : ∀ {l : List (Key × AV)} {q : List (Key × AV) → Prop}, stK k v l q → q (setKeyA k v l)
  | [], q, h => h
  | (k', u) :: l, q, h => by
    simp only [stK] at h
    simp only [setKeyA]
    split
    · rename_i e; exact bcase_t h (Key.eqB_iff.2 e)
    · rename_i e
      refine stK_set (q := fun r => q ((k', u) :: r)) (bcase_f h ?_)
      cases hh : k'.eqB k
      · rfl
      · exact absurd (Key.eqB_iff.1 hh) e
def dlK (k : Key) : List (Key × AV) → (List (Key × AV) → Prop) → Prop
  | [], q => q []
  | (k', u) :: l, q => bcase (k'.eqB k) (q l) (dlK k l fun r => q ((k', u) :: r))
theorem dlK_del {k : Key} : ∀ {l : List (Key × AV)} {q : List (Key × AV) → Prop}, dlK k l q → q (delKeyA k l)
  | [], q, h => h
  | (k', u) :: l, q, h => by
    simp only [dlK] at h
    simp only [delKeyA]
    split
    · rename_i e; exact bcase_t h (Key.eqB_iff.2 e)
    · rename_i e
      refine dlK_del (q := fun r => q ((k', u) :: r)) (bcase_f h ?_)
      cases hh : k'.eqB k
      · rfl
      · exact absurd (Key.eqB_iff.1 hh) e
def szIs (t : TypeId) (n : Nat) : Bool := match K t with | some i => decide (i.sz = n) | none => false
def szPos (t : TypeId) : Bool := match K t with | some i => decide (i.sz ≠ 0) | none => false
def isAg (t : TypeId) : Bool := match K t with | some i => i.agg | none => false
def partOk (fs : List (Nat × TypeId)) (sz f n : Nat) : Bool := match fs[f]? with
  | some (off, ft) => match K ft with
    | some k => decide (k.sz = n) && decide (off + k.sz ≤ sz)
    | none => false
  | none => false
def rawA : AV → Bool
  | .d (.v (.pointer (some _))) => true
  | _ => false
def vkOf (t : TypeId) : Option VK := match kdOf K t with
  | some (.map _ e) => match K e with
    | some k => match k.zero with
      | [.d (.v (.string _))] => some .str
      | [.d (.v (.int ik _))] => some (.int ik)
      | [.d (.v (.map _))] => some .map
      | [.d (.v (.pointer _))] => some .ptr
      | _ => none
    | none => none
  | _ => none
def aOp (Γ : List (FuncId × En)) (s : S) : Op → Q1 → Prop
  | .assign x, q => q (s.ev x) s.o none
  | .pick c a b, q => match s.ev c with
    | .d (.v (.bool t)) => bcase t (q (s.ev a) s.o none) (q (s.ev b) s.o none)
    | _ => False
  | .alloc t, q => match K t with
    | some i => chk (decide (i.zero.length = i.sz)) (q (.rf s.o.length 0) (s.o ++ [.box i.zero]) none)
    | none => False
  | .box t x, q => chk ((cellsOfAV (s.ev x)).all AV.cell && szIs K t (cellsOfAV (s.ev x)).length) (q (.rf s.o.length 0) (s.o ++ [.box (cellsOfAV (s.ev x))]) none)
  | .load t x, q => match s.ev x with
    | .rf i off => match s.o[i]? with
      | some (.box cs) => chk (decide (off ≤ cs.length)) (ldAV K t (cs.drop off) fun v => q v s.o none)
      | _ => False
    | .ep c => ldD K t c fun v => q v s.o none
    | .d (.v (.pointer (some ⟨b, off, none⟩))) => match findF s.o 0 with
      | some (_, f) => match f.sh with
        | .box ks => chk (decide (off ≤ ks.length)) (∃ r, recF b f.l = some r ∧ ldAV K t ((cellsR ks r 0).drop off) fun v => q v s.o none)
        | .map _ => False
      | none => False
    | .rp r sz i off => match s.o[r]? with
      | some (.row sz' es) => chk (decide (sz' = sz)) (i < es.length ∧ off ≤ (es.getD i []).length ∧ ldD K t ((es.getD i []).drop off) fun v => q v s.o none)
      | some (.pow es) => chk (decide (sz = 1) && decide (off = 0)) (i < es.length ∧ ldAV K t (es.drop i) fun v => q v s.o none)
      | _ => False
    | _ => False
  | .store t a x, q => match s.ev a with
    | .d (.v (.pointer (some ⟨b, off, none⟩))) => match findF s.o 0 with
      | some (i, f) => match f.sh with
        | .box ks => chk (szIs K t 1 && !isAg K t && fitK ks[off]? (s.ev x)) (∃ r, recF b f.l = some r ∧ q .jk (s.o.set i (.bun (famR ⟨f.kk, .box ks, putM b (r.put off (s.ev x)) f.l⟩))) none)
        | .map _ => False
      | none => False
    | .rf i off => match s.o[i]? with
      | some (.box cs) => chk ((cellsOfAV (s.ev x)).all AV.cell && szIs K t (cellsOfAV (s.ev x)).length && (isAg K t || !(s.ev x).isAg) && decide (off + (cellsOfAV (s.ev x)).length ≤ cs.length)) (q .jk (s.o.set i (.box (splice cs off (cellsOfAV (s.ev x))))) none)
      | _ => False
    | .rp r sz i off => match s.o[r]? with
      | some (.row sz' es) => chk (decide (sz' = sz) && (cellsOfAV (s.ev x)).all AV.cell && !(s.ev x).views && szIs K t (cellsOfAV (s.ev x)).length && (isAg K t || !(s.ev x).isAg)) <| match toDL [] (cellsOfAV (s.ev x)) with
        | some ds => (i < es.length ∧ off + ds.length ≤ (es.getD i []).length) ∧ q .jk (s.o.set r (.row sz (es.set i (wholeD sz (es.getD i []) off ds)))) none
        | none => False
      | some (.pow es) => chk (decide (sz = 1) && decide (off = 0) && (s.ev x).firm && (s.ev x).one && szIs K t 1) (i < es.length ∧ q .jk (s.o.set r (.pow (es.set i (s.ev x)))) none)
      | _ => False
    | _ => False
  | .build t parts, q => match K t with
    | some i => match i.kd with
      | .struct fs => chk (fs.all (fun p => (K p.2).isSome) && parts.toList.all (fun p => (cellsOfAV (s.ev p.2)).all AV.cell && partOk K fs i.sz p.1 (cellsOfAV (s.ev p.2)).length) && decide (i.zero.length = i.sz)) <|
          match fillAV i.zero (parts.toList.map fun p => (p.1, s.ev p.2)) (fun j => (fs[j]?).map (·.1)) with
          | some cs => q (.ag cs) s.o none
          | none => False
      | .array n e => match K e with
        | some k => chk (parts.toList.all (fun p => (cellsOfAV (s.ev p.2)).all AV.cell && decide (k.sz = (cellsOfAV (s.ev p.2)).length) && decide (p.1 * k.sz + k.sz ≤ i.sz)) && decide (i.zero.length = i.sz)) <|
          match fillAV i.zero (parts.toList.map fun p => (p.1, s.ev p.2)) (fun j => some (j * k.sz)) with
          | some cs => q (.ag cs) s.o none
          | none => False
        | none => False
      | _ => False
    | none => False
  | .buildSlice t n parts, q => match kdOf K t with
    | some (.slice e) => match K e with
      | some i => match i.kd.isT .ptr && !(parts.toList.all (fun p => rawA (s.ev p.2))) with
        | true => chk (decide (i.sz = 1) && decide (n ≤ 16777216) && decide (i.zero.length = 1) && !i.agg && i.zero.all (fun x => x.firm && x.one) && parts.toList.all (fun p => decide (p.1 < n) && (s.ev p.2).firm && (s.ev p.2).one)) (q (.vw s.o.length n) (s.o ++ [.pow (fillP (List.replicate n (i.zero.getD 0 .jk)) (parts.toList.map fun p => (p.1, s.ev p.2)))]) none)
        | false => chk (decide (0 < i.sz) && decide (n * i.sz ≤ 16777216) && decide (i.zero.length = i.sz) && parts.toList.all (fun p => decide (p.1 < n) && (cellsOfAV (s.ev p.2)).all AV.cell && !(s.ev p.2).views && decide (i.sz = (cellsOfAV (s.ev p.2)).length))) <| match toDL [] i.zero with
        | some z => match fillD (List.replicate n z) (parts.toList.map fun p => (p.1, s.ev p.2)) s.o with
          | some es => q (.vw s.o.length n) (s.o ++ [.row i.sz es]) none
          | none => False
        | none => False
      | none => False
    | _ => False
  | .fieldAddr t x f, q => match kdOf K t with
    | some (.struct fs) => match fs[f]? with
      | some (off, ft) => chk (szPos K ft) <| match s.ev x with
        | .rf i o => q (.rf i (o + off)) s.o none
        | .rp r sz i o => q (.rp r sz i (o + off)) s.o none
        | .ep c => q (.ep (c.drop off)) s.o none
        | .d (.v (.pointer (some ⟨b, o, none⟩))) => q (.d (.v (.pointer (some ⟨b, o + off, none⟩)))) s.o none
        | _ => False
      | none => False
    | _ => False
  | .indexAddr t x i, q => match kdOf K t with
    | some (.slice e) => match K e with
      | some k => match s.ev x, s.ev i with
        | .d (.sl es), .d (.v (.int _ n)) => (0 ≤ n ∧ n < es.length) ∧ (es.getD n.toNat []).length = k.sz ∧ q (.ep (es.getD n.toNat [])) s.o none
        | .vw r m, .d (.v (.int _ n)) => (0 ≤ n ∧ n < m) ∧ q (.rp r k.sz n.toNat 0) s.o none
        | _, _ => False
      | none => False
    | some (.array len e) => match K e with
      | some k => match s.ev x, s.ev i with
        | .rf j o, .d (.v (.int _ n)) => (0 ≤ n ∧ n < len) ∧ q (.rf j (o + n.toNat * k.sz)) s.o none
        | _, _ => False
      | none => False
    | _ => False
  | .convert a t x, q => match s.ev x, kdOf K t with
    | .d (.v (.string b)), some (.slice e) => chk ((K a).isSome && u8K K t) (q (.d (.sl (bytesD b))) s.o none)
    | _, _ => False
  | .slice t x lo hi none, q => match sliceZ lo hi with
    | true => match s.ev x, kdOf K t with
      | .vw r n, some (.slice e) => match s.o[r]? with
        | some (.row sz es) => chk (K e).isSome (q (.vw r 0) ((s.o.map (Ob.killO r)).set r (.row sz [])) (some r))
        | _ => False
      | .nl, some (.slice e) => chk (K e).isSome (q .nl s.o none)
      | _, _ => aPure K s (.slice t x lo hi none) fun v => q v s.o none
    | false => match s.ev x, lo, hi.map s.ev, kdOf K t with
      | .vw r n, none, some (.d (.v (.int _ h))), some (.slice e) => match s.o[r]? with
        | some (.pow es) => (0 ≤ h ∧ h ≤ n) ∧ chk (K e).isSome (q (.vw r h.toNat) ((s.o.map (Ob.killO r)).set r (.pow (es.take h.toNat))) (some r))
        | _ => (0 ≤ h ∧ h ≤ n) ∧ chk (K e).isSome (q (.vw r h.toNat) s.o none)
      | .nl, none, some (.d (.v (.int _ h))), some (.slice e) => h = 0 ∧ chk (K e).isSome (q .nl s.o none)
      | _, _, _, _ => aPure K s (.slice t x lo hi none) fun v => q v s.o none
  | .makeMap t r, q => match kdOf K t with
    | some (.map kt _) => match kkOf K kt with
      | some kk => chk r.isNone <| match symOf K t with
        | true => q (.mp s.o.length) (s.o ++ [.map kk.sy []]) none
        | false => q (.mp s.o.length) (s.o ++ [.map kk []]) none
      | none => False
    | _ => False
  | .range t x, q => match vkOf K t with
    | some vk => match s.ev x with
      | .mp j => match s.o[j]? with
        | some (.bun R) => match R.tag with
          | some f => match symOf K t with
            | true => (f.l.map (·.1)).Nodup ∧ ∀ Z, q (.rf s.o.length 0) (s.o.set j (.bun (frdR f Z [])) ++ [.bun (itR ⟨Z, entsF f.sh f.l, vk, true, [], none⟩)]) none
            | false => ∀ Z, q (.rf s.o.length 0) (s.o.set j (.bun (frzR R Z)) ++ [.bun (itR ⟨Z, entsF f.sh f.l, vk, false, [], none⟩)]) none
          | none => False
        | some (.map kk ents) => (∀ e ∈ ents, isV vk e.2) ∧ ∀ Z, q (.rf s.o.length 0) (s.o.set j (.bun (mfzR Z)) ++ [.bun (itR ⟨Z, ents, vk, true, [], none⟩)]) none
        | _ => False
      | .d (.v (.map (some b))) => match findF s.o 0 with
        | some (i, f) => match f.sh, s.o[i]? with
          | .map kk, some (.bun R) => ∃ r, recF b f.l = some r ∧ ∀ Z, q (.rf s.o.length 0) (s.o.set i (.bun (frzR R Z)) ++ [.bun (itR ⟨Z, r.m, vk, false, [], none⟩)]) none
          | _, _ => False
        | none => False
      | _ => False
    | none => False
  | .next x false, q => match s.ev x with
    | .rf i 0 => match s.o[i]? with
      | some (.bun R) => match R.it with
        | some d => stillP s.o d ∧
          (∀ (n : Nat) (k : Key) (v : AV), d.ents[n]? = some (k, v) → n ∉ d.vis → exVal d.vk v fun v' => exKy d.ky k fun k' => q (.tp [.d (.v (.bool true)), k', v']) (s.o.set i (.bun (itR ⟨d.Z, d.ents, d.vk, d.ky, n :: d.vis, some (k', v')⟩))) none) ∧
          ((∀ n, n < d.ents.length → n ∈ d.vis) → q (.tp [.d (.v (.bool false))]) s.o none)
        | none => False
      | _ => False
    | _ => False
  | .entry x, q => match s.ev x with
    | .rf i 0 => match s.o[i]? with
      | some (.bun R) => match R.it with
        | some d => match d.cur with
          | some (k, v) => stillE s.o d ∧ q (.tp [k, v]) s.o none
          | none => False
        | none => False
      | _ => False
    | _ => False
  | .lookup t x i ok, q => match kdOf K t with
    | some (.map kt e) => match K e, keyOf (s.ev i) with
      | some k, some ky => chk (decide (k.zero.length = k.sz)) <|
        match s.ev x with
        | .d (.v (.map none)) => chk (decide (kkOf K kt = some ky.kind)) (ldAV K e k.zero fun z => q (if ok then .tp [z, .d (.v (.bool false))] else z) s.o none)
        | .mp j => match s.o[j]? with
          | some (.map kk ents) => chk (decide (kkOf K kt = some kk.base) && decide (ky.kind = kk.base)) <| match kk.isSy with
            | true => chk (k.agg || decide (1 ≤ k.zero.length)) <| exK k.agg k.zero fun v => getO ky ents (zeroA k.agg k.zero) = v ∧
              q (if ok then .tp [v, .d (.v (.bool (hasK ky ents)))] else v) s.o none
            | false => lkK ky ents fun
              | some v => q (if ok then .tp [v, .d (.v (.bool true))] else v) s.o none
              | none => ldAV K e k.zero fun z => q (if ok then .tp [z, .d (.v (.bool false))] else z) s.o none
          | some (.bun R) => match R.tag with
            | some f => chk (decide (kkOf K kt = some f.kk) && decide (ky.kind = f.kk)) <| bcase (hasF ky f.l)
              (∃ b, blkF ky f.l = some b ∧ q (if ok then .tp [.d (.v (f.sh.ref b)), .d (.v (.bool true))] else .d (.v (f.sh.ref b))) s.o none)
              (ldAV K e k.zero fun z => q (if ok then .tp [z, .d (.v (.bool false))] else z) s.o none)
            | none => False
          | _ => False
        | .d (.v (.map (some b))) => match findF s.o 0 with
          | some (_, f) => match f.sh with
            | .map kk => chk (decide (kkOf K kt = some kk) && decide (ky.kind = kk)) (ldAV K e k.zero fun z => z = .d (.v (.string ⟨#[]⟩)) ∧ ∃ r, recF b f.l = some r ∧
              q (if ok then .tp [.d (.v (.string (getS ky r.m))), .d (.v (.bool (hasK ky r.m)))] else .d (.v (.string (getS ky r.m)))) s.o none)
            | .box _ => False
          | none => False
        | _ => False
      | _, _ => False
    | _ => False
  | .mapUpdate t m i x, q => match kdOf K t with
    | some (.map kt _) => match keyOf (s.ev i), s.ev m with
      | some ky, .mp j => match s.o[j]? with
        | some (.bun R) => match R.tag, s.ev x with
          | some f, .rf p 0 => match f.sh, s.o[p]? with
            | .box ks, some (.box cs) => chk (decide (kkOf K kt = some f.kk) && decide (ky.kind = f.kk) && decide (p ≠ j) && fitL ks cs) <| hasF ky f.l = false ∧ ∀ b, newF b f.l →
              q .jk ((s.o.set p .gone).set j (.bun (famR ⟨f.kk, .box ks, f.l ++ [(ky, b, ⟨fun n => intA (cs.getD n .jk), fun n => strA (cs.getD n .jk), []⟩)]⟩))) none
            | _, _ => False
          | some f, .mp p => match f.sh, s.o[p]? with
            | .map kk2, some (.map kk3 []) => chk (decide (kkOf K kt = some f.kk) && decide (ky.kind = f.kk) && decide (p ≠ j)) <| hasF ky f.l = false ∧ ∀ b, newF b f.l →
              q .jk ((s.o.set p .gone).set j (.bun (famR ⟨f.kk, .map kk2, f.l ++ [(ky, b, ⟨fun _ => 0, fun _ => ⟨#[]⟩, []⟩)]⟩))) none
            | _, _ => False
          | _, _ => False
        | some (.map kk ents) => chk (decide (kkOf K kt = some kk.base) && decide (ky.kind = kk.base) && (s.ev x).firm && (!kk.isSy || (s.ev x).rigid)) <| match kk.isSy with
          | true => q .jk (s.o.set j (.map kk (setKeyA ky (s.ev x) ents))) none
          | false => stK ky (s.ev x) ents fun r => q .jk (s.o.set j (.map kk r)) none
        | _ => False
      | some ky, .d (.v (.map (some b))) => match findF s.o 0, s.ev x with
        | some (j, f), .d (.v (.string v)) => match f.sh with
          | .map kk => chk (decide (kkOf K kt = some kk) && decide (ky.kind = kk)) (∃ r, recF b f.l = some r ∧ q .jk (s.o.set j (.bun (famR ⟨f.kk, .map kk, putM b ⟨r.i, r.s, setKeyA ky (.d (.v (.string v))) r.m⟩ f.l⟩))) none)
          | .box _ => False
        | _, _ => False
      | _, _ => False
    | _ => False
  | .insert t m i x, q => match kdOf K t with
    | some (.map kt _) => match keyOf (s.ev i), s.ev m with
      | some ky, .mp j => match s.o[j]? with
        | some (.bun R) => match R.tag, s.ev x with
          | some f, .rf p 0 => match f.sh, s.o[p]? with
            | .box ks, some (.box cs) => chk (decide (kkOf K kt = some f.kk) && decide (ky.kind = f.kk) && decide (p ≠ j) && fitL ks cs) <| hasF ky f.l = false ∧ ∀ b, newF b f.l →
              q .jk ((s.o.set p .gone).set j (.bun (famR ⟨f.kk, .box ks, f.l ++ [(ky, b, ⟨fun n => intA (cs.getD n .jk), fun n => strA (cs.getD n .jk), []⟩)]⟩))) none
            | _, _ => False
          | some f, .mp p => match f.sh, s.o[p]? with
            | .map kk2, some (.map kk3 []) => chk (decide (kkOf K kt = some f.kk) && decide (ky.kind = f.kk) && decide (p ≠ j)) <| hasF ky f.l = false ∧ ∀ b, newF b f.l →
              q .jk ((s.o.set p .gone).set j (.bun (famR ⟨f.kk, .map kk2, f.l ++ [(ky, b, ⟨fun _ => 0, fun _ => ⟨#[]⟩, []⟩)]⟩))) none
            | _, _ => False
          | _, _ => False
        | some (.map kk ents) => chk (decide (kkOf K kt = some kk.base) && decide (ky.kind = kk.base) && (s.ev x).firm && (!kk.isSy || (s.ev x).rigid)) <| match kk.isSy with
          | true => q .jk (s.o.set j (.map kk (setKeyA ky (s.ev x) ents))) none
          | false => stK ky (s.ev x) ents fun r => q .jk (s.o.set j (.map kk r)) none
        | _ => False
      | some ky, .d (.v (.map (some b))) => match findF s.o 0, s.ev x with
        | some (j, f), .d (.v (.string v)) => match f.sh with
          | .map kk => chk (decide (kkOf K kt = some kk) && decide (ky.kind = kk)) (∃ r, recF b f.l = some r ∧ q .jk (s.o.set j (.bun (famR ⟨f.kk, .map kk, putM b ⟨r.i, r.s, setKeyA ky (.d (.v (.string v))) r.m⟩ f.l⟩))) none)
          | .box _ => False
        | _, _ => False
      | _, _ => False
    | _ => False
  | .call c, q => match c.callee with
    | .value f => match s.ev f with
      | .fn (.func f) first caps => match findE Γ f with
        | some e => e.ent (first ++ c.args.toList.map s.ev ++ caps) s.o q
        | none => False
      | .d (.fn (.func f) first caps) => match findE Γ f with
        | some e => e.ent (first.map .d ++ c.args.toList.map s.ev ++ caps.map .d) s.o q
        | none => False
      | _ => False
    | .builtin .append => match c.args.toList.map s.ev, c.argTypes.toList with
      | [x, y], [t, t2] => match kdOf K t, kdOf K t2 with
        | some (.slice e), some (.slice _) => match K e, powOf s.o y with
          | some k, some es2 => chk (decide (k.sz = 1) && decide (k.bytes ≤ 32768) && decide (k.zero.length = k.sz)) <| match x with
            | .nl => es2.length ≤ LIM ∧ q (.vw s.o.length es2.length) (s.o ++ [.pow es2]) none
            | .vw r n => match s.o[r]? with
              | some (.pow es) => n = es.length ∧ es.length + es2.length ≤ LIM ∧ q (.vw r (es.length + es2.length)) ((s.o.map (Ob.killO r)).set r (.pow (es ++ es2))) (some r)
              | _ => False
            | _ => False
          | _, _ => match K e, y.toD s.o with
          | some k, some (.sl es2) => chk (decide (0 < k.sz) && decide (k.bytes ≤ 32768) && decide (k.zero.length = k.sz)) <| (∀ c ∈ es2, c.length = k.sz) ∧ match x with
            | .nl => es2.length ≤ LIM ∧ q (.vw s.o.length es2.length) (s.o ++ [.row k.sz es2]) none
            | .vw r n => match s.o[r]? with
              | some (.row sz es) => chk (decide (sz = k.sz)) <| n = es.length ∧ es.length + es2.length ≤ LIM ∧ q (.vw r (es.length + es2.length)) ((s.o.map (Ob.killO r)).set r (.row sz (es ++ es2))) (some r)
              | _ => False
            | _ => False
          | _, _ => False
        | _, _ => False
      | _, _ => False
    | .builtin .delete => match c.args.toList.map s.ev, c.argTypes.toList with
      | [x, i], t :: _ => match kdOf K t with
        | some (.map kt _) => match keyOf i with
          | some ky => match x with
            | .d (.v (.map none)) => chk (decide (kkOf K kt = some ky.kind)) (q (.tp []) s.o none)
            | .mp j => match s.o[j]? with
              | some (.map kk ents) => chk (decide (kkOf K kt = some kk.base) && decide (ky.kind = kk.base)) <| match kk.isSy with
                | true => q (.tp []) (s.o.set j (.map kk (delKeyA ky ents))) none
                | false => dlK ky ents fun r => q (.tp []) (s.o.set j (.map kk r)) none
              | some (.bun R) => match R.tag with
                | some f => chk (decide (kkOf K kt = some f.kk) && decide (ky.kind = f.kk)) <| match R.fd, itOf s.o with
                  | some (Z, dl), some d => match d.vis, d.cur with
                    | n :: _, some (ka, _) => Z = d.Z ∧ ka = i ∧ q (.tp []) (s.o.set j (.bun (frdR ⟨f.kk, f.sh, delF ky f.l⟩ Z (n :: dl)))) none
                    | _, _ => False
                  | _, _ => q (.tp []) (s.o.set j (.bun (famR ⟨f.kk, f.sh, delF ky f.l⟩))) none
                | none => False
              | _ => False
            | .d (.v (.map (some b))) => match findF s.o 0 with
              | some (j, f) => match f.sh with
                | .map kk => chk (decide (kkOf K kt = some kk) && decide (ky.kind = kk)) (∃ r, recF b f.l = some r ∧ q (.tp []) (s.o.set j (.bun (famR ⟨f.kk, .map kk, putM b ⟨r.i, r.s, delKeyA ky r.m⟩ f.l⟩))) none)
                | .box _ => False
              | none => False
            | _ => False
          | none => False
        | _ => False
      | _, _ => False
    | .builtin .clear => match c.args.toList.map s.ev, c.argTypes.toList with
      | [x], [t] => match kdOf K t with
        | some (.map _ _) => match x with
          | .d (.v (.map none)) => q (.tp []) s.o none
          | .mp j => match s.o[j]? with
            | some (.map kk ents) => q (.tp []) (s.o.set j (.map kk [])) none
            | _ => False
          | .d (.v (.map (some b))) => match findF s.o 0 with
            | some (j, f) => match f.sh with
              | .map kk => ∃ r, recF b f.l = some r ∧ q (.tp []) (s.o.set j (.bun (famR ⟨f.kk, .map kk, putM b ⟨r.i, r.s, []⟩ f.l⟩))) none
              | .box _ => False
            | none => False
          | _ => False
        | _ => False
      | _, _ => False
    | _ => False
  | _, _ => False
end
def S.lit (s : S) (d : Nat) (b : Bool) : S := ⟨s.t.set d (.d (.v (.bool b))), s.o⟩
def S.litO (s : S) (x : Operand) (b : Bool) : S := match x with | .tmp d => s.lit d b | _ => s
section
variable (K : TypeId → Option TK) (Γ : List (FuncId × En))
def refOf (s : S) : Op → Option ((List AV → List Ob → (AV → List Ob → Prop) → Prop) × List AV)
  | .call c => match c.callee with
    | .value f => match s.ev f with
      | .fn (.func f) first caps => match findE Γ f with
        | some (.ref E) => some (E, first ++ c.args.toList.map s.ev ++ caps)
        | _ => none
      | _ => none
    | _ => none
  | _ => none
def backK (n : Nat) (k : AV → S → Prop) (av : AV) (o' : List Ob) : Prop := match o'[n]? with
  | some (.gh cs) => k av ⟨cs, o'.set n .gone⟩
  | _ => False
def aStep (s : S) (op : Op) (k : AV → S → Prop) : Prop :=
  match refOf Γ s op with
  | some (E, args) => E args (s.o ++ [.gh s.t]) (backK s.o.length k)
  | none =>
  match isPureOp K op with
  | true => aPure K s op fun av => k av s
  | false => aOp K Γ (sealAll (sealRows Γ s op) s) op fun av o' kl => k av ⟨killT kl (sealAll (sealRows Γ s op) s).t, o'⟩
def aOps (ops : Array Oper) : List Oper → (S → Prop) → S → Prop
  | [], k, s => k s
  | o :: rest, k, s =>
    match o.guard with
    | none => aStep K Γ s o.op fun av s' => aOps ops rest k (s'.put o.dst av)
    | some (j, want) =>
      match (ops[j]?).bind (·.dst) with
      | some d => match s.t.getD d .jk with
        | .d (.v (.bool b)) => bcase b
          (match want with | true => aStep K Γ (s.lit d true) o.op fun av s' => aOps ops rest k (s'.put o.dst av) | false => aOps ops rest k ((s.lit d true).put o.dst (.tp [])))
          (match want with | false => aStep K Γ (s.lit d false) o.op fun av s' => aOps ops rest k (s'.put o.dst av) | true => aOps ops rest k ((s.lit d false).put o.dst (.tp [])))
        | .tp [] => aOps ops rest k (s.put o.dst (.tp []))
        | _ => False
      | none => False
mutual
def AV.flat : AV → Prop
  | .d (.v (.string s)) => s.size ≤ LIM
  | .d (.v (.bool _)) => True
  | .d (.v (.int _ _)) => True
  | .nl => True
  | .tp l => flatL l
  | .ag l => flatL l
  | _ => False
def flatL : List AV → Prop
  | [] => True
  | x :: l => x.flat ∧ flatL l
end
def aQuiet (s : S) (op : Op) (k : AV → Prop) : Prop :=
  match op with
  | .assign x => k (s.ev x)
  | .pick c a b => match s.ev c with
    | .d (.v (.bool t)) => bcase t (k (s.ev a)) (k (s.ev b))
    | _ => False
  | .load t x => aOp K Γ s (.load t x) fun v _ _ => k v
  | .fieldAddr t x f => aOp K Γ s (.fieldAddr t x f) fun v _ _ => k v
  | .indexAddr t x y => aOp K Γ s (.indexAddr t x y) fun v _ _ => k v
  | .build t p => aOp K Γ s (.build t p) fun v _ _ => k v
  | .lookup t x i ok => aOp K Γ s (.lookup t x i ok) fun v _ _ => k v
  | .call c => match c.callee with
    | .value f => match s.ev f with
      | .fn (.func f) first caps => match findE Γ f with
        | some (.det F) => match pureL s.o (first ++ c.args.toList.map s.ev ++ caps) with
          | some l => match F l with
            | some (p, r) => p ∧ r.flat ∧ k r
            | none => False
          | none => False
        | _ => False
      | _ => False
    | _ => aPure K s op k
  | op => aPure K s op k
def aDraw (ops : Array Oper) : List Oper → (S → Prop) → S → Prop
  | [], k, s => k s
  | o :: rest, k, s =>
    match o.guard with
    | none => aQuiet K Γ s o.op fun av => aDraw ops rest k (s.put o.dst av)
    | some (j, want) =>
      match (ops[j]?).bind (·.dst) with
      | some d => match s.t.getD d .jk with
        | .d (.v (.bool b)) => bcase b
          (match want with | true => aQuiet K Γ (s.lit d true) o.op fun av => aDraw ops rest k ((s.lit d true).put o.dst av) | false => aDraw ops rest k ((s.lit d true).put o.dst (.tp [])))
          (match want with | false => aQuiet K Γ (s.lit d false) o.op fun av => aDraw ops rest k ((s.lit d false).put o.dst av) | true => aDraw ops rest k ((s.lit d false).put o.dst (.tp [])))
        | .tp [] => aDraw ops rest k (s.put o.dst (.tp []))
        | _ => False
      | none => False
def callDet (Γ : List (FuncId × En)) : Op → Bool
  | .call c => match c.callee with
    | .value (.func f) => match findE Γ f with | some (.det _) => true | _ => false
    | .value _ => true
    | _ => false
  | _ => false
def ptrSl (K : TypeId → Option TK) (t : TypeId) : Bool := match kdOf K t with
  | some (.slice e) => match kdOf K e with
    | some (.ptr _) => true
    | _ => false
  | _ => false
def quietOp (K : TypeId → Option TK) (Γ : List (FuncId × En)) (op : Op) : Bool := match op with
  | .assign _ | .pick .. | .load .. | .fieldAddr .. | .indexAddr .. | .build .. | .lookup .. => true
  | .slice t _ _ _ none => !ptrSl K t
  | op => isPureOp K op || callDet Γ op
def firstK (K : TypeId → Option TK) (ph : Bool) (s : S) (op : Op) : Bool := match op with
  | .assign _ | .pick .. | .fieldAddr .. | .indexAddr .. => true
  | .load t x => ph && !ownRead s (.load t x)
  | .slice _ x _ _ none => match s.ev x with | .d _ => true | _ => false
  | op => isPureOp K op && (ph || !sealRead op) && !ownRead s op
def gd (ops : Array Oper) (s : S) (o : Oper) (yes no : S → Prop) : Prop :=
  match o.guard with
  | none => yes s
  | some (j, want) =>
    match (ops[j]?).bind (·.dst) with
    | some d => match s.t.getD d .jk with
      | .d (.v (.bool b)) => bcase b
        (match want with | true => yes (s.lit d true) | false => no (s.lit d true))
        (match want with | false => yes (s.lit d false) | true => no (s.lit d false))
      | .tp [] => no s
      | _ => False
    | none => False
def allN (p : Nat → Prop) : List Nat → Prop
  | [] => True
  | [i] => p i
  | i :: l => p i ∧ allN p l
def baseOf (ops : Array Oper) (s : S) : Nat → Operand → Option (Option Nat)
  | 0, _ => none
  | n + 1, x => match x with
    | .tmp p => match ops.toList.find? (fun o => match o.dst with | some d => Nat.beq d p | none => false) with
      | some o => match o.op with
        | .alloc _ => some none
        | .box _ _ => some none
        | .fieldAddr _ y _ => baseOf ops s n y
        | .indexAddr _ y _ => baseOf ops s n y
        | .nilCheck y => baseOf ops s n y
        | _ => none
      | none => match s.t.getD p .jk with
        | .rf i _ => some (some i)
        | _ => none
    | _ => none
def narrowB (ops : Array Oper) (s : S) : Bool := ops.toList.all fun o => match o.op with
  | .store _ a _ => (baseOf ops s 8 a).isSome
  | .alloc _ => true
  | .box _ _ => true
  | .mapUpdate .. => true
  | .insert .. => true
  | .call c => match c.callee with
    | .builtin .delete => true
    | _ => quietOp K Γ (.call c)
  | op => quietOp K Γ op
def turnsMap : Op → Bool
  | .mapUpdate .. => true
  | .insert .. => true
  | .call c => match c.callee with
    | .builtin .delete => true
    | _ => false
  | _ => false
def mapsOf : List Ob → Nat → List Nat
  | [], _ => []
  | .map _ _ :: l, i => i :: mapsOf l (i + 1)
  | _ :: l, i => mapsOf l (i + 1)
def wOf (ops : Array Oper) (s : S) : List Nat := (match ops.toList.any (fun o => turnsMap o.op) with | true => mapsOf s.o 0 | false => []) ++ ops.toList.filterMap fun o => match o.op with
  | .store _ a _ => (match baseOf ops s 8 a with | some (some i) => some i | _ => none)
  | _ => none
def elemB (i : Nat) (W : List Nat) : Bool := W.any fun j => decide (i = j)
def firstN (n0 : Nat) (W : List Nat) (ph : Bool) (s : S) (op : Op) : Bool := match op with
  | .load _ x => match s.ev x with
    | .rf i _ => Nat.blt i n0 && !elemB i W
    | .ep _ => ph
    | _ => false
  | .lookup _ x _ _ => match s.ev x with
    | .mp j => Nat.blt j n0 && !elemB j W
    | .d (.v (.map none)) => true
    | _ => false
  | op => firstK K ph s op
def isMapO : Option Ob → Bool
  | some (.map _ _) => true
  | _ => false
def aStepN (n0 : Nat) (W : List Nat) (s : S) (op : Op) (k : AV → S → Prop) : Prop := match op with
  | .alloc t => aOp K Γ s (.alloc t) fun av o' _ => k av ⟨s.t, o'⟩
  | .box t x => aOp K Γ s (.box t x) fun av o' _ => k av ⟨s.t, o'⟩
  | .store t a x => match s.ev a with
    | .rf i _ => chk (elemB i W || Nat.ble n0 i) (aOp K Γ s (.store t a x) fun av o' _ => k av ⟨s.t, o'⟩)
    | _ => False
  | .mapUpdate t m i x => match s.ev m with
    | .mp j => chk ((elemB j W || Nat.ble n0 j) && !(s.ev x).views && isMapO s.o[j]?) (aOp K Γ s (.mapUpdate t m i x) fun av o' _ => k av ⟨s.t, o'⟩)
    | _ => False
  | .insert t m i x => match s.ev m with
    | .mp j => chk ((elemB j W || Nat.ble n0 j) && !(s.ev x).views && isMapO s.o[j]?) (aOp K Γ s (.mapUpdate t m i x) fun av o' _ => k av ⟨s.t, o'⟩)
    | _ => False
  | .call c => match c.callee with
    | .builtin .delete => match c.args.toList with
      | x :: _ => match s.ev x with
        | .mp j => chk (elemB j W || Nat.ble n0 j) (aOp K Γ s (.call c) fun av o' _ => k av ⟨s.t, o'⟩)
        | _ => False
      | [] => False
    | .value f => match s.ev f with
      | .fn (.func fi) first caps => match findE Γ fi with
        | some (.det F) => pureE (detE F) (first ++ c.args.toList.map s.ev ++ caps) s.o fun av _ _ => k av s
        | _ => False
      | _ => False
    | _ => aQuiet K Γ s op fun av => k av s
  | op => aQuiet K Γ s op fun av => k av s
def spL {α : Type} : List α → (List α → Prop) → Prop
  | [], k => k []
  | x :: l, k => spL l fun m => k (x :: m)
theorem spL_eq {α : Type} : ∀ (l : List α) (k : List α → Prop), spL l k = k l
  | [], k => rfl
  | x :: l, k => by rw [spL, spL_eq l]
def spS (s : S) (k : S → Prop) : Prop := spL s.t fun t => spL s.o fun o => k ⟨t, o⟩
theorem spS_eq (s : S) (k : S → Prop) : spS s k = k s := by rw [spS, spL_eq, spL_eq]
def forceBL : List Bool → (List Bool → Prop) → Prop
  | [], k => k []
  | true :: l, k => forceBL l fun m => k (true :: m)
  | false :: l, k => forceBL l fun m => k (false :: m)
theorem forceBL_eq : ∀ (l : List Bool) (k : List Bool → Prop), forceBL l k = k l
  | [], k => rfl
  | true :: l, k => by rw [forceBL, forceBL_eq l]
  | false :: l, k => by rw [forceBL, forceBL_eq l]
def forceBA (a : Array Bool) (k : Array Bool → Prop) : Prop := forceBL a.toList fun l => k ⟨l⟩
theorem forceBA_eq (a : Array Bool) (k : Array Bool → Prop) : forceBA a k = k a := by rw [forceBA, forceBL_eq]
def aAnyN (ops : Array Oper) (n0 : Nat) (W : List Nat) : Nat → Array Bool → Bool → (S → Prop) → S → Prop
  | 0, listed, _, k, s => chk (Region.ready .any ops listed).isEmpty (k s)
  | n + 1, listed, ph, k, s =>
    forceBA listed fun listed => spS s fun s => match (Region.ready .any ops listed).find? (fun i => Region.free .any ops listed i && (match ops[i]? with | some o => firstN K n0 W ph s o.op | none => false)) with
    | some i => match ops[i]? with
      | some o => gd ops s o (fun s' => aQuiet K Γ s' o.op fun av => aAnyN ops n0 W n (listed.setIfInBounds i true) ph k (s'.put o.dst av)) (fun s' => aAnyN ops n0 W n (listed.setIfInBounds i true) ph k (s'.put o.dst (.tp [])))
      | none => False
    | none => match Region.ready .any ops listed with
      | [] => k s
      | l => allN (fun i => match ops[i]? with
        | some o => gd ops s o (fun s' => aStepN K Γ n0 W s' o.op fun av s2 => aAnyN ops n0 W n (listed.setIfInBounds i true) false k (s2.put o.dst av)) (fun s' => aAnyN ops n0 W n (listed.setIfInBounds i true) ph k (s'.put o.dst (.tp [])))
        | none => False) l
def narrow1 (ops : Array Oper) (s : S) (o : Oper) : Bool := match o.op with
  | .store _ a _ => (baseOf ops s 8 a).isSome
  | .alloc _ => true
  | .box _ _ => true
  | .mapUpdate .. => true
  | .insert .. => true
  | .call c => match c.callee with
    | .builtin .delete => true
    | _ => quietOp K Γ (.call c)
  | op => quietOp K Γ op
def wideL (ops : Array Oper) (s : S) : List Oper → Nat → List Nat
  | [], _ => []
  | o :: l, i => match narrow1 K Γ ops s o with
    | true => wideL ops s l (i + 1)
    | false => i :: wideL ops s l (i + 1)
def reachB (ops : Array Oper) (i : Nat) : Nat → Nat → Bool
  | 0, _ => false
  | n + 1, j => match ops[j]? with
    | some o => o.after.toList.any fun e => Region.binds .any e && (Nat.beq e.on i || reachB ops i n e.on)
    | none => false
def reachW (i : Nat) : List Oper → Nat → List Nat → List Nat
  | [], _, R => R
  | o :: l, j, R => match o.after.toList.any fun e => Region.binds .any e && (Nat.beq e.on i || elemB e.on R) with
    | true => reachW i l (j + 1) (j :: R)
    | false => reachW i l (j + 1) R
def forceNb : List Nat → (List Nat → Bool) → Bool
  | [], k => k []
  | i :: l, k => forceNb l fun m => k (i :: m)
theorem forceNb_eq : ∀ (l : List Nat) (k : List Nat → Bool), forceNb l k = k l
  | [], k => rfl
  | i :: l, k => by rw [forceNb, forceNb_eq l]
def waitsB (ops : Array Oper) (Wd : List Nat) (listed : Array Bool) (i : Nat) : Bool := forceNb (reachW i ops.toList 0 []) fun R => Wd.all fun j => listed.getD j true || elemB j R
def firstM (ops : Array Oper) (Wd : List Nat) (listed : Array Bool) (n0 : Nat) (W : List Nat) (ph : Bool) (s : S) (i : Nat) (op : Op) : Bool := firstK K false s op || (firstN K n0 W ph s op && waitsB ops Wd listed i)
def aAnyM (ops : Array Oper) (Wd : List Nat) : Nat → Array Bool → Nat → List Nat → Bool → (S → Prop) → S → Prop
  | 0, listed, _, _, _, k, s => chk (Region.ready .any ops listed).isEmpty (k s)
  | n + 1, listed, n0, W, ph, k, s =>
    forceBA listed fun listed => spS s fun s => match (Region.ready .any ops listed).find? (fun i => Region.free .any ops listed i && (match ops[i]? with | some o => firstM K ops Wd listed n0 W ph s i o.op | none => false)) with
    | some i => match ops[i]? with
      | some o => gd ops s o (fun s' => aQuiet K Γ s' o.op fun av => aAnyM ops Wd n (listed.setIfInBounds i true) n0 W ph k (s'.put o.dst av)) (fun s' => aAnyM ops Wd n (listed.setIfInBounds i true) n0 W ph k (s'.put o.dst (.tp [])))
      | none => False
    | none => match Region.ready .any ops listed with
      | [] => k s
      | l => allN (fun i => match ops[i]? with
        | some o => match elemB i Wd with
          | true => gd ops s o (fun s' => aStep K Γ s' o.op fun av s2 => aAnyM ops Wd n (listed.setIfInBounds i true) s2.o.length (wOf ops (s2.put o.dst av)) true k (s2.put o.dst av)) (fun s' => aAnyM ops Wd n (listed.setIfInBounds i true) n0 W ph k (s'.put o.dst (.tp [])))
          | false => gd ops s o (fun s' => aStepN K Γ n0 W s' o.op fun av s2 => aAnyM ops Wd n (listed.setIfInBounds i true) n0 W false k (s2.put o.dst av)) (fun s' => aAnyM ops Wd n (listed.setIfInBounds i true) n0 W ph k (s'.put o.dst (.tp [])))
        | none => False) l
def forceNs : List Nat → (List Nat → Prop) → Prop
  | [], k => k []
  | i :: l, k => forceNs l fun m => k (i :: m)
theorem forceNs_eq : ∀ (l : List Nat) (k : List Nat → Prop), forceNs l k = k l
  | [], k => rfl
  | i :: l, k => by rw [forceNs, forceNs_eq l]
def flatTy : Nat → TypeId → Bool
  | 0, _ => false
  | n + 1, t => match K t with
    | some i => match i.kd with
      | .bool => true
      | .int _ => true
      | .str => true
      | .struct fs => fs.all fun p => flatTy n p.2
      | .array _ e => flatTy n e
      | _ => false
    | none => false
def hoistB (op : Op) : Bool := match op with
  | .load t _ => flatTy K 4 t
  | .lookup .. => false
  | .assign _ | .pick .. | .fieldAddr .. | .indexAddr .. | .build .. => true
  | .slice t _ _ _ none => !ptrSl K t
  | .call c => match c.callee with
    | .builtin .len => match c.argTypes.toList with
      | [t] => match kdOf K t with | some (.map _ _) => false | _ => true
      | _ => false
    | _ => isPureOp K (.call c)
  | op => isPureOp K op && !sealRead op
def quietR (op : Op) : Bool := match op with
  | .load .. | .lookup .. | .assign _ | .pick .. | .fieldAddr .. | .indexAddr .. | .build .. => true
  | .slice t _ _ _ none => !ptrSl K t
  | op => isPureOp K op
def softOp (s : S) (op : Op) : Bool := match op with
  | .alloc _ => true
  | .box _ _ => true
  | .call c => match c.callee with
    | .value f => match s.ev f with
      | .fn (.func g) _ _ => match findE Γ g with
        | some (.det _) => true
        | some (.pure _) => true
        | some (.new _) => true
        | _ => false
      | _ => false
    | _ => false
  | _ => false
def opsL (p : Op → Bool) : List Oper → Nat → List Nat
  | [], _ => []
  | o :: l, i => match p o.op with
    | true => i :: opsL p l (i + 1)
    | false => opsL p l (i + 1)
inductive ST where
  | done
  | nar (w tf : Bool) (i : Nat) (t : ST)
  | any (c : ST)
  | alt (i : Nat) (t m : ST)
  | stop
def ST.has : ST → List Nat
  | .alt i _ m => i :: m.has
  | _ => []
def ST.isStop : ST → Bool
  | .stop => true
  | _ => false
def ST.dep : ST → Nat
  | .nar _ _ _ t => t.dep + 1
  | .any c => c.dep
  | .alt _ t m => max (t.dep + 1) m.dep
  | _ => 0
def tmpFree (ops : Array Oper) (l : Array Bool) (op : Op) : Bool := match op with
  | .load _ (.tmp p) => (List.range ops.size).all fun j => l.getD j true || match ops[j]? with
    | some o => match o.dst with | some d => !Nat.beq d p | none => true
    | none => true
  | .load .. => true
  | _ => false
def forceBO (l : List Bool) (k : List Bool → Option ST) : Option ST := match l with
  | [] => k []
  | true :: l => forceBO l fun m => k (true :: m)
  | false :: l => forceBO l fun m => k (false :: m)
theorem forceBO_eq : ∀ (l : List Bool) (k : List Bool → Option ST), forceBO l k = k l
  | [], k => rfl
  | true :: l, k => by rw [forceBO, forceBO_eq l]
  | false :: l, k => by rw [forceBO, forceBO_eq l]
def alts (f : Array Bool → Option ST) : List Nat → Array Bool → Option ST
  | [], _ => some .stop
  | i :: r, l => match f (l.setIfInBounds i true), alts f r l with
    | some t, some m => some (.alt i t m)
    | _, _ => none
def sched (ops : Array Oper) (Hd Sf : List Nat) : Nat → Array Bool → Option ST
  | 0, l => match (Region.ready .any ops l).isEmpty with
    | true => some .done
    | false => none
  | n + 1, l => forceBO l.toList fun l0 => match (Region.ready .any ops ⟨l0⟩).find? (fun i => !elemB i Hd && !elemB i Sf && Region.free .any ops ⟨l0⟩ i && (match ops[i]? with | some o => hoistB K o.op || waitsB ops Hd ⟨l0⟩ i | none => false)) with
    | some i => match sched ops Hd Sf n ((⟨l0⟩ : Array Bool).setIfInBounds i true) with
      | some t => some (.nar (waitsB ops Hd ⟨l0⟩ i) (match ops[i]? with | some o => tmpFree ops ⟨l0⟩ o.op | none => false) i t)
      | none => none
    | none => match Region.ready .any ops ⟨l0⟩ with
      | [] => some .done
      | r => match r.all (fun i => elemB i Hd || elemB i Sf) with
        | true => match alts (sched ops Hd Sf n) r ⟨l0⟩ with
          | some c => some (.any c)
          | none => none
        | false => none
def reval (s : S) : List (TypeId × Operand × AV) → Prop → Prop
  | [], k => k
  | (t, x, v) :: l, k => aOp K Γ s (.load t x) (fun v' _ _ => v' = v) ∧ reval s l k
def isBuild : Op → Bool
  | .build .. => true
  | _ => false
def aSoft (s : S) (op : Op) (k : AV → S → Prop) : Prop := match op with
  | .alloc t => aOp K Γ s (.alloc t) fun av o' _ => k av ⟨s.t, o'⟩
  | .box t x => aOp K Γ s (.box t x) fun av o' _ => k av ⟨s.t, o'⟩
  | .call c => match c.callee with
    | .value f => match (sealAll (sealRows Γ s (.call c)) s).ev f with
      | .fn (.func fi) first caps => match findE Γ fi with
        | some (.det F) => pureE (detE F) (first ++ c.args.toList.map (sealAll (sealRows Γ s (.call c)) s).ev ++ caps) (sealAll (sealRows Γ s (.call c)) s).o fun av _ _ => k av (sealAll (sealRows Γ s (.call c)) s)
        | some (.pure E) => pureE E (first ++ c.args.toList.map (sealAll (sealRows Γ s (.call c)) s).ev ++ caps) (sealAll (sealRows Γ s (.call c)) s).o fun av _ _ => k av (sealAll (sealRows Γ s (.call c)) s)
        | some (.new E) => newE E (first ++ c.args.toList.map (sealAll (sealRows Γ s (.call c)) s).ev ++ caps) (sealAll (sealRows Γ s (.call c)) s).o fun av o' kl => k av ⟨killT kl (sealAll (sealRows Γ s (.call c)) s).t, o'⟩
        | _ => False
      | _ => False
    | _ => False
  | _ => False
def andS (b : Bool) (x y : Prop) : Prop := match b with
  | true => x
  | false => x ∧ y
def aRun (ops : Array Oper) (Hd : List Nat) : ST → List (TypeId × Operand × AV) → (S → Prop) → S → Prop
  | .done, _, k, s => k s
  | .stop, _, _, _ => True
  | .any c, pd, k, s => spS s fun s => aRun ops Hd c pd k s
  | .alt i t m, pd, k, s => andS m.isStop (match ops[i]? with
      | some o => match elemB i Hd with
        | true => gd ops s o (fun s' => aStep K Γ s' o.op fun av s2 => reval K Γ s2 pd (aRun ops Hd t pd k (s2.put o.dst av))) (fun s' => aRun ops Hd t pd k (s'.put o.dst (.tp [])))
        | false => gd ops s o (fun s' => aSoft K Γ s' o.op fun av s2 => aRun ops Hd t pd k (s2.put o.dst av)) (fun s' => aRun ops Hd t pd k (s'.put o.dst (.tp [])))
      | none => False) (aRun ops Hd m pd k s)
  | .nar w tf i t, pd, k, s => spS s fun s => match ops[i]? with
    | some o => gd ops s o (fun s' => match firstK K true s' o.op || isBuild o.op with
        | true => aQuiet K Γ s' o.op fun av => aRun ops Hd t pd k (s'.put o.dst av)
        | false => match w with
          | true => aQuiet K Γ s' o.op fun av => aRun ops Hd t pd k (s'.put o.dst av)
          | false => match o.op with
            | .load ty x => chk tf (aOp K Γ s' (.load ty x) fun v _ _ => v.flat ∧ aRun ops Hd t ((ty, x, v) :: pd) k (s'.put o.dst v))
            | _ => False)
      (fun s' => aRun ops Hd t pd k (s'.put o.dst (.tp [])))
    | none => False
def forceST : ST → (ST → Prop) → Prop
  | .done, k => k .done
  | .stop, k => k .stop
  | .any c, k => forceST c fun c => k (.any c)
  | .alt i t m, k => forceST t fun t => forceST m fun m => k (.alt i t m)
  | .nar true tf i t, k => forceST t fun t => match tf with | true => k (.nar true true i t) | false => k (.nar true false i t)
  | .nar false tf i t, k => forceST t fun t => match tf with | true => k (.nar false true i t) | false => k (.nar false false i t)
theorem forceST_eq : ∀ (x : ST) (k : ST → Prop), forceST x k = k x
  | .done, k => rfl
  | .stop, k => rfl
  | .any c, k => by rw [forceST, forceST_eq c]
  | .alt i t m, k => by rw [forceST, forceST_eq t, forceST_eq m]
  | .nar true tf i t, k => by rw [forceST, forceST_eq t]; cases tf <;> rfl
  | .nar false tf i t, k => by rw [forceST, forceST_eq t]; cases tf <;> rfl
def opTy : Op → Option TypeId
  | .load t _ => some t
  | .binOp _ t _ _ _ => some t
  | .field t _ _ => some t
  | .fieldAddr t _ _ => some t
  | .indexAddr t _ _ => some t
  | .index t _ _ => some t
  | .lookup t _ _ _ => some t
  | .convert t _ _ => some t
  | .call c => c.argTypes.toList.head?
  | _ => none
def runOps (ops : Array Oper) : Bool := ops.toList.any fun o => match opTy o.op with | some t => runOf K t | none => false
def aOpen (ops : Array Oper) (k : S → Prop) (s : S) : Prop := match ops.toList.all (fun o => quietOp K Γ o.op) with
  | true => chk (Region.lexB .any ops) (aDraw K Γ ops ops.toList k s)
  | false => chk (Region.noSelect ops) <| match (match runOps K ops with | true => sched K ops (opsL (fun op => !quietR K op && !softOp Γ s op) ops.toList 0) (opsL (fun op => !quietR K op && softOp Γ s op) ops.toList 0) ops.size (Array.replicate ops.size false) | false => none) with
    | some σ => forceST σ fun σ => forceNs (opsL (fun op => !quietR K op && !softOp Γ s op) ops.toList 0) fun Hd => aRun K Γ ops Hd σ [] k s
    | none => match narrowB K Γ ops s with
    | true => aAnyN K Γ ops s.o.length (wOf ops s) ops.size (Array.replicate ops.size false) true k s
    | false => forceNs (wideL K Γ ops s ops.toList 0) fun Wd => aAnyM K Γ ops Wd ops.size (Array.replicate ops.size false) s.o.length (wOf ops s) true k s
inductive AX where
  | nor
  | ret
  | exit (i : Nat)
abbrev Kont := AX → S → Prop
def kSeq (next : S → Prop) (q : Kont) : Kont
  | .nor, s => next s
  | x, s => q x s
def kBlk (id : Nat) (q : Kont) : Kont
  | .exit i, s => if i = id then q .nor s else q (.exit i) s
  | x, s => q x s
def jks (n : Nat) : List AV := List.replicate n .jk
def leA (x y : AV) (k : Prop) : Prop := match y with
  | .jk => k
  | _ => match x with
    | .nl => (y = .nl ∨ y = .d (.sl [])) ∧ k
    | _ => x = y ∧ k
def leL : List AV → List AV → Prop
  | [], [] => True
  | x :: l, y :: r => leA x y (leL l r)
  | _, _ => False
def syOf : Ob → Ob → Prop
  | .map k e, .map k' e' => k'.isSy = true ∧ k'.base = k.base ∧ e = e' ∧ ∀ p ∈ e, p.2.rigid = true
  | _, _ => False
def leO : List Ob → List Ob → Prop
  | _, [] => True
  | [], _ :: _ => False
  | x :: l, y :: r => (y = .gone ∨ x = y ∨ syOf x y) ∧ leO l r
mutual
def AV.fits (n : Nat) : AV → Bool
  | .vw r _ => decide (r < n)
  | .rf i _ => decide (i < n)
  | .rp r _ _ _ => decide (r < n)
  | .mp i => decide (i < n)
  | .ag cs => fitsL n cs
  | .tp cs => fitsL n cs
  | .fn _ fs cs => fitsL n fs && fitsL n cs
  | .opt _ x => x.fits n
  | .d _ => true
  | .nl => true
  | .ep _ => true
  | .jk => true
def fitsL (n : Nat) : List AV → Bool
  | [] => true
  | x :: l => x.fits n && fitsL n l
end
def Ob.fits (n : Nat) : Ob → Bool
  | .box cs => fitsL n cs
  | .gh cs => fitsL n cs
  | .map kk ents => kk.isSy || ents.all fun e => e.2.fits n
  | .pow es => fitsL n es
  | _ => true
def S.fits (s : S) : Bool := fitsL s.o.length s.t && s.o.all (Ob.fits s.o.length)
def S.le (s s1 : S) : Prop := leL s.t s1.t ∧ (s.o = s1.o ∨ (leO s.o s1.o ∧ s1.fits = true))
inductive FamNext {ι : Type} (st : ι → S) (inv : ι → Prop) (μ : ι → Nat) (i : ι) (s : S) : Prop where
  | mk (rs : List Nat) (j : ι) (h : (sealAll rs s).le (st j)) (hi : inv j) (hm : μ j < μ i)
  | mkW (j : ι) (h : Weak s (st j)) (hi : inv j) (hm : μ j < μ i)
def kFam {ι : Type} (st : ι → S) (inv : ι → Prop) (μ : ι → Nat) (i : ι) (q : Kont) : Kont
  | .nor, s => FamNext st inv μ i s
  | x, s => q x s
def maskL : List Bool → List AV → List AV
  | [], l => l
  | _ :: _, [] => []
  | true :: m, _ :: l => .jk :: maskL m l
  | false :: m, x :: l => x :: maskL m l
def S.mask (m : List Bool) (s : S) : S := ⟨maskL m s.t, s.o⟩
def AV.isJk : AV → Bool
  | .jk => true
  | _ => false
def maskOf (s : S) : List Bool := s.t.map AV.isJk
def kFamM {ι : Type} (rs : List Nat) (m : List Bool) (st : ι → S) (inv : ι → Prop) (μ : ι → Nat) (i : ι) (q : Kont) : Kont
  | .nor, s => FamNext st inv μ i ((sealAll rs s).mask m)
  | x, s => q x s
def openNil (i j sz : Nat) (o : List Ob) : List Ob := match o[i]? with
  | some (.box cs) => match cs[j]? with
    | some .nl => o.set i (.box (cs.set j (.vw o.length 0))) ++ [.row sz []]
    | _ => o
  | _ => o
def openPow (i j : Nat) (o : List Ob) : List Ob := match o[i]? with
  | some (.box cs) => match cs[j]? with
    | some .nl => o.set i (.box (cs.set j (.vw o.length 0))) ++ [.pow []]
    | _ => o
  | _ => o
def S.openB (s : S) (i j sz : Nat) : S := ⟨s.t, openNil i j sz s.o⟩
def S.openT (s : S) (i sz : Nat) : S := match s.t[i]? with
  | some .nl => ⟨s.t.set i (.vw s.o.length 0), s.o ++ [.row sz []]⟩
  | _ => s
def aLoopN (body : Kont → S → Prop) (q : Kont) : Nat → S → Prop
  | 0, _ => False
  | n + 1, s => body (kSeq (aLoopN body q n) q) s
inductive ALoop (body : Kont → S → Prop) (q : Kont) : S → Prop where
  | introM {s : S} {ι : Type} (rs : List Nat) (m : List Bool) (st : ι → S) (inv : ι → Prop) (μ : ι → Nat) (h0 : ∃ rs i, (sealAll rs s).le (st i) ∧ inv i) (h : ∀ i, inv i → body (kFamM rs m st inv μ i q) (st i)) : ALoop body q s
  | openT {s : S} (i sz : Nat) (hz : 0 < sz) (h : ALoop body q (s.openT i sz)) : ALoop body q s
  | openB {s : S} (i j sz : Nat) (hz : 0 < sz) (h : ALoop body q (s.openB i j sz)) : ALoop body q s
  | unr {s : S} (n : Nat) (h : aLoopN body q n s) : ALoop body q s
  | weak {s : S} (s1 : S) (h : Weak s s1) (hl : ALoop body q s1) : ALoop body q s
theorem kFam_eq {ι : Type} (st : ι → S) (inv : ι → Prop) (μ : ι → Nat) (i : ι) (q : Kont) : kFam st inv μ i q = kFamM [] [] st inv μ i q := by
  funext x s; cases x <;> rfl
theorem ALoop.intro {body : Kont → S → Prop} {q : Kont} {s : S} {ι : Type} (st : ι → S) (inv : ι → Prop) (μ : ι → Nat) (h0 : ∃ rs i, (sealAll rs s).le (st i) ∧ inv i) (h : ∀ i, inv i → body (kFam st inv μ i q) (st i)) : ALoop body q s :=
  .introM [] [] st inv μ h0 fun i hi => by rw [← kFam_eq]; exact h i hi
mutual
def AV.ren (fv fr : Nat → Option Nat) : AV → AV
  | .vw r k => match fv r with | some j => .vw j k | none => .jk
  | .rf i o => match fr i with | some j => .rf j o | none => .jk
  | .rp i s k o => match fv i with | some j => (match fr i with | some j' => if j = j' then .rp j s k o else .jk | none => .jk) | none => .jk
  | .mp i => match fr i with | some j => .mp j | none => .jk
  | .ag cs => .ag (renL fv fr cs)
  | .tp cs => .tp (renL fv fr cs)
  | .fn f fs cs => .fn f (renL fv fr fs) (renL fv fr cs)
  | .opt b x => .opt b (x.ren fv fr)
  | .d x => .d x
  | .nl => .nl
  | .ep c => .ep c
  | .jk => .jk
def renL (fv fr : Nat → Option Nat) : List AV → List AV
  | [] => []
  | x :: l => x.ren fv fr :: renL fv fr l
end
def Ob.ren (fv fr : Nat → Option Nat) : Ob → Ob
  | .box cs => .box (renL fv fr cs)
  | .row sz es => .row sz es
  | .map kk ents => match kk.isSy with
    | true => .map kk ents
    | false => .map kk (ents.map fun e => (e.1, e.2.ren fv fr))
  | .gone => .gone
  | .gh cs => .gh (renL fv fr cs)
  | .pow es => .pow (renL fv fr es)
  | .bun R => .bun R
def Ob.firmO : Ob → Bool
  | .map kk ents => kk.isSy || ents.all fun e => e.2.firm
  | .pow es => es.all fun x => x.firm && x.one
  | _ => true
def posOf : List Nat → Nat → Option Nat
  | [], _ => none
  | x :: l, i => if x = i then some 0 else match posOf l i with | some p => some (p + 1) | none => none
def nodupB : List Nat → Bool
  | [] => true
  | x :: l => (posOf l x).isNone && nodupB l
def fpOK (o : List Ob) (fp : List Nat) : Bool := nodupB fp && fp.all fun i => match o[i]? with | some ob => ob.live | none => false
def inO (fp : List Nat) (o : List Ob) : List Ob := fp.map fun i => ((o[i]?).getD .gone).ren (posOf fp) (posOf fp)
def S.pack (fp : List Nat) (s : S) : S := ⟨renL (posOf fp) (posOf fp) s.t, inO fp s.o⟩
def packOK (fp : List Nat) (o : List Ob) : Bool := fpOK o fp && (inO fp o).all Ob.firmO
def posG : List (Option Nat) → Nat → Option Nat
  | [], _ => none
  | x :: l, i => match (match x with | some j => Nat.beq j i | none => false) with
    | true => some 0
    | false => match posG l i with
      | some p => some (p + 1)
      | none => none
def inG (fp : List (Option Nat)) (o : List Ob) : List Ob := fp.map fun
  | some i => ((o[i]?).getD .gone).ren (posG fp) (posG fp)
  | none => .gone
def S.packG (fp : List (Option Nat)) (s : S) : S := ⟨renL (posG fp) (posG fp) s.t, inG fp s.o⟩
def okG (o : List Ob) : Nat → List (Option Nat) → Bool
  | _, [] => true
  | p, none :: l => okG o (p + 1) l
  | p, some i :: l => (match o[i]? with
    | some (.gh _) => Nat.beq p i
    | some .gone => false
    | some _ => true
    | none => false) && (match posG l i with | none => true | some _ => false) && okG o (p + 1) l
def packGOK (fp : List (Option Nat)) (o : List Ob) : Bool := okG o 0 fp && (inG fp o).all Ob.firmO
inductive ACut (body : Kont → S → Prop) (q : Kont) (s : S) : Prop where
  | wk (rs : List Nat) (s1 : S) (h : (sealAll rs s).le s1) (hb : body q s1) : ACut body q s
  | pk (rs fp : List Nat) (s1 : S) (hp : packOK fp (sealAll rs s).o = true) (h : ((sealAll rs s).pack fp).le s1) (hb : body q s1) : ACut body q s
  | wW (s1 : S) (h : Weak s s1) (hb : body q s1) : ACut body q s
def cutB : Code → Bool
  | .region id ops _ => ops.toList.any fun o => match opTy o.op with
    | some t => match K t with
      | some i => i.cuts.any fun n => Nat.beq n id
      | none => false
    | none => false
  | _ => false
def aCode : Code → Kont → S → Prop
  | .skip, q, s => q .nor s
  | .region _ ops false, q, s => aOps K Γ ops ops.toList (q .nor) s
  | .region _ ops true, q, s => aOpen K Γ ops (q .nor) s
  | .seq x y, q, s => match cutB K x with
    | true => aCode x (kSeq (ACut (aCode y) q) q) s
    | false => aCode x (kSeq (aCode y q) q) s
  | .cond c x y, q, s => match s.ev c with
    | .d (.v (.bool t)) => bcase t (aCode x q (s.litO c true)) (aCode y q (s.litO c false))
    | _ => False
  | .block id c, q, s => aCode c (kBlk id q) s
  | .loop c, q, s => ALoop (aCode c) q s
  | .exit i, q, s => q (.exit i) s
  | .ret, q, s => q .ret s
  | .scope c, q, s => aCode c q s
  | .label _, q, s => q .nor s
  | _, _, _ => False
def res1 (s : S) : ResultVar → Option AV
  | .tmp t => some (s.t.getD t .jk)
  | .cell a t => match s.t.getD a .jk with
    | .rf i off => match s.o[i]? with
      | some (.box cs) => match K t with
        | some k => if off + k.sz ≤ cs.length then (if k.agg then some (.ag ((cs.drop off).take k.sz)) else if off < cs.length then some (cs.getD off .jk) else none) else none
        | none => none
      | _ => none
    | _ => none
def resL (s : S) : List ResultVar → Option (List AV)
  | [] => some []
  | r :: l => match res1 K s r, resL s l with | some x, some xs => some (x :: xs) | _, _ => none
def resAV : List AV → AV
  | [x] => x
  | l => .tp l
def kRet (rs : List ResultVar) (q : AV → Prop) : Kont
  | .exit _, _ => False
  | _, s => match resL K s rs with
    | some l => match (resAV l).pure s.o with
      | some r => q r
      | none => False
    | none => False
def kRetF (rs : List ResultVar) (q : AV → List Ob → Prop) : Kont
  | .exit _, _ => False
  | _, s => match resL K s rs with
    | some l => q (resAV l) s.o
    | none => False
end
def cAt : List Nat → Code → Code
  | [], c => c
  | 0 :: l, .seq x _ => cAt l x
  | _ :: l, .seq _ y => cAt l y
  | 0 :: l, .cond _ x _ => cAt l x
  | _ :: l, .cond _ _ y => cAt l y
  | _ :: l, .block _ c => cAt l c
  | _ :: l, .loop c => cAt l c
  | _ :: l, .scope c => cAt l c
  | _, c => c
end Go.AM
