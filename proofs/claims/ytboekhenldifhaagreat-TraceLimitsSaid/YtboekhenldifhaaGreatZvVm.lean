/- The machine of this proof: a small deterministic interpreter of a compiled form of Go functions. Immutable data are terms, mutable memory is a short list of blocks. Definitions alone. -/
import GoSem.Core.View
namespace Go.Proofs.YtboekhenldifhaaGreat

/-- Data that nothing will change any more. -/
inductive D where
  | bool (b : Bool)
  | int (k : IntKind) (n : Int)
  | str (s : ByteArray)
  | nilp | nilf | nilm | nili
  | slice (es : List D)
  | iptr (cells : List D) (off : Nat)
  | agg (cells : List D)
  | tuple (vs : List D)
  | func (f : Nat) (first captured : List D)
  deriving Inhabited

/-- A value of a running function. -/
inductive V where
  | poison
  | d (x : D)
  | nils
  | emp
  /-- Empty and not nil, of whatever room. -/
  | non
  | lit (es : List D)
  | ptr (id ver i j : Nat)
  | ms (id ver off len : Nat)
  | asl (id ver i j len : Nat)
  | agg (cells : List V)
  | tuple (vs : List V)
  | func (f : Nat) (first captured : List V)
  | map (id : Nat)
  | yield (id : Nat)
  deriving Inhabited

def D.cells : D → List D
  | .agg cs => cs
  | x => [x]
def V.cells : V → List V
  | .agg cs => cs
  | .d x => x.cells.map .d
  | x => [x]
def scalarD : D → Bool
  | .agg _ | .tuple _ => false
  | _ => true
def scalarV : V → Bool
  | .d x => scalarD x
  | .poison | .agg _ | .tuple _ => false
  | _ => true
def asDs : List V → Option (List D)
  | [] => some []
  | .d x :: r => (asDs r).map (x :: ·)
  | _ => none
def mkAgg (cs : List V) : V := match asDs cs with | some ds => .d (.agg ds) | none => .agg cs
def mkTuple (cs : List V) : V := match asDs cs with | some ds => .d (.tuple ds) | none => .tuple cs
def mkFunc (f : Nat) (a b : List V) : V := match asDs a, asDs b with | some x, some y => .d (.func f x y) | _, _ => .func f a b

inductive Opd where
  | t (n : Nat)
  | c (v : V)
  deriving Inhabited

/-- How two values of a type are compared. -/
inductive Cmp where
  | no | int | str | flat (n : Nat) | bool | ptr | slice | map | func
  deriving DecidableEq, Inhabited

inductive VOp where
  | fail
  | mv (x : Opd)
  | pick (c a b : Opd)
  | alloc (slot : Nat) (z : List V)
  | box (slot : Nat) (x : Opd)
  | build (z : List V) (parts : List (Nat × Nat × Opd))
  | bslice (esz : Nat) (z : List V) (n : Nat) (parts : List (Nat × Opd))
  | load (agg : Bool) (n : Nat) (a : Opd)
  | store (n : Nat) (a x : Opd)
  | nilc (x : Opd)
  | bin (op : BinOp) (cmp : Cmp) (x y : Opd)
  | un (op : UnOp) (x : Opd)
  | conv (k : IntKind) (x : Opd)
  | mkslice (slot esz bytes : Nat) (z : List V) (len cap : Opd)
  | slice (esz : Nat) (x : Opd) (lo hi : Option Opd)
  | slarr (n esz : Nat) (x : Opd) (lo hi : Option Opd)
  | faddr (off : Nat) (x : Opd)
  | iaddrS (esz : Nat) (x i : Opd)
  | iaddrA (n esz : Nat) (x i : Opd)
  | index (x i : Opd)
  | indexA (n : Nat) (x i : Opd)
  | lookup (c : Cmp) (z : V) (m k : Opd) (ok : Bool)
  | mapup (c : Cmp) (m k x : Opd)
  | mkmap (slot : Nat)
  | ext (x : Opd) (i : Nat)
  | mkfunc (f : Nat) (first captured : List Opd)
  | call (f : Nat) (args : List Opd)
  | callv (f : Opd) (args : List Opd)
  | len (c : Cmp) (x : Opd)
  | append (slot esz bytes : Nat) (s x : Opd)
  | max (xs : List Opd)
  | min (xs : List Opd)
  | clear (z : List V) (x : Opd)
  /-- A slice's literal in a block of its own. -/
  | mslice (slot esz : Nat) (z : List V) (n : Nat) (parts : List (Nat × Opd))
  deriving Inhabited

structure VOper where
  dst : Option Nat
  op : VOp
  guard : Option (Nat × Bool)
  deriving Inhabited

inductive VCode where
  | skip
  | region (draw : Option (List (Nat × Nat))) (slots : Nat) (ops : List VOper)
  | seq (a b : VCode)
  | cond (c : Opd) (a b : VCode)
  | block (id : Nat) (body : VCode)
  | loop (live : List Nat) (body : VCode)
  | rangeFunc (f : Opd) (live params : List Nat) (assign body : VCode)
  | exit (id : Nat)
  | ret
  | fail
  deriving Inhabited

inductive VRes where
  | t (n : Nat)
  | cell (t : Nat) (agg : Bool) (n : Nat)
  deriving Inhabited

structure VFun where
  /-- the parameters that are handed over as references -/
  byRef : List Bool
  /-- the results may bear new blocks -/
  keep : Bool
  /-- an empty first argument is run twice: nil and not nil -/
  split : Bool
  body : VCode
  res : List VRes
  deriving Inhabited

/-- A jump that a round has left pending. -/
inductive Jump where
  | none | exit (id : Nat) | ret
  deriving DecidableEq, Inhabited

inductive Blk where
  | rows (ver : Nat) (ro : Bool) (esz : Nat) (els : List (List V))
  | map (es : List (D × V))
  | loop (state : Nat) (pending : Jump) (env : List (Nat × V)) (params : List Nat) (assign body : VCode)
  deriving Inhabited

abbrev Env := Nat → V
abbrev Store := List (Option Blk)

def upd (e : Env) (t : Nat) (v : V) : Env := fun x => bif Nat.beq x t then v else e x
def e0 : Env := fun _ => .poison
def put (e : Env) (dst : Option Nat) (v : V) : Env := match dst with | some t => upd e t v | none => e
def ev (e : Env) : Opd → V
  | .t n => e n
  | .c v => v
def getB (s : Store) (id : Nat) : Option Blk := (s[id]?).join
def setB (s : Store) (id : Nat) (b : Blk) : Store := s.set id (some b)
/-- A new block at a place that was kept free for it. -/
def newB (s : Store) (id : Nat) (b : Blk) : Option Store := if id < s.length ∧ (getB s id).isNone then some (s.set id (some b)) else none
def verOf (s : Store) (id : Nat) : Option Nat := match getB s id with | some (.rows v _ _ _) => some v | some _ => some 0 | none => none

/-! ### Numbers -/
def binInt (op : BinOp) (k : IntKind) (a b : Int) : Option D :=
  match op with
  | .add => some (.int k (k.wrap (a + b)))
  | .sub => some (.int k (k.wrap (a - b)))
  | .mul => some (.int k (k.wrap (a * b)))
  | .quo => if b = 0 then none else some (.int k (k.wrap (a.tdiv b)))
  | .rem => if b = 0 then none else some (.int k (a.tmod b))
  | .and => some (.int k (k.wrap (BitVec.ofInt k.bits a &&& BitVec.ofInt k.bits b).toNat))
  | .or => some (.int k (k.wrap (BitVec.ofInt k.bits a ||| BitVec.ofInt k.bits b).toNat))
  | .xor => some (.int k (k.wrap (BitVec.ofInt k.bits a ^^^ BitVec.ofInt k.bits b).toNat))
  | .andNot => some (.int k (k.wrap (BitVec.ofInt k.bits a &&& ~~~(BitVec.ofInt k.bits b)).toNat))
  | .eql => some (.bool (a == b))
  | .neq => some (.bool (a != b))
  | .lss => some (.bool (decide (a < b)))
  | .leq => some (.bool (decide (a ≤ b)))
  | .gtr => some (.bool (decide (a > b)))
  | .geq => some (.bool (decide (a ≥ b)))
  | _ => none
def shiftInt (op : BinOp) (k : IntKind) (a b : Int) : Option D :=
  if b < 0 then none else
  match op with
  | .shl => some (.int k (k.wrap (a * 2 ^ (min b.toNat k.bits))))
  | .shr => some (.int k (a.fdiv (2 ^ (min b.toNat k.bits))))
  | _ => none
/-- Equality of rows of whole numbers. -/
def eqInts : List D → List D → Option Bool
  | [], [] => some true
  | .int k a :: xs, .int k' b :: ys => if k = k' then (eqInts xs ys).map fun r => a == b && r else none
  | _, _ => none
/-- Equality of keys. -/
def eqK (c : Cmp) (x y : D) : Option Bool :=
  match c, x, y with
  | .int, .int k a, .int k' b => if k = k' then some (a == b) else none
  | .str, .str a, .str b => some (a == b)
  | .flat n, .agg xs, .agg ys => if xs.length = n then eqInts xs ys else none
  | _, _, _ => none
/-- Is a reference nil? -/
def isNil : Cmp → V → Option Bool
  | .slice, .nils => some true
  | .slice, .lit _ => some false
  | .slice, .non => some false
  | .slice, .ms _ _ _ _ => some false
  | .slice, .asl _ _ _ _ _ => some false
  | .slice, .d (.slice (_ :: _)) => some false
  | .ptr, .d .nilp => some true
  | .ptr, .d (.iptr _ _) => some false
  | .ptr, .ptr _ _ _ _ => some false
  | .map, .d .nilm => some true
  | .map, .map _ => some false
  | .func, .d .nilf => some true
  | .func, .d (.func _ _ _) => some false
  | .func, .func _ _ _ => some false
  | _, _ => none
/-- Two references of which one is nil. -/
def nilEq (c : Cmp) (x y : V) : Option Bool :=
  match isNil c x, isNil c y with
  | some true, some b => some b
  | some b, some true => some b
  | _, _ => none
def eqV (c : Cmp) (x y : V) : Option Bool :=
  match c, x, y with
  | .flat n, .d (.agg xs), .d (.agg ys) => if xs.length = n then eqInts xs ys else none
  | .bool, .d (.bool a), .d (.bool b) => some (a == b)
  | c, x, y => nilEq c x y
def bin (op : BinOp) (cmp : Cmp) (x y : V) : Option V :=
  match op, x, y with
  | .shl, .d (.int k a), .d (.int _ b) => (shiftInt .shl k a b).map .d
  | .shr, .d (.int k a), .d (.int _ b) => (shiftInt .shr k a b).map .d
  | op, .d (.int k a), .d (.int k' b) => if k = k' then (binInt op k a b).map .d else none
  | .eql, x, y => (eqV cmp x y).map fun b => .d (.bool b)
  | .neq, x, y => (eqV cmp x y).map fun b => .d (.bool !b)
  | _, _, _ => none
def un (op : UnOp) (x : V) : Option V :=
  match op, x with
  | .neg, .d (.int k a) => (binInt .sub k 0 a).map .d
  | .xor, .d (.int k a) => (binInt .xor k (if k.signed then -1 else k.max) a).map .d
  | .not, .d (.bool b) => some (.d (.bool !b))
  | _, _ => none
def minmax (less : Int → Int → Bool) : V → List V → Option V
  | x, [] => some x
  | .d (.int k a), .d (.int k' b) :: r => if k = k' then minmax less (.d (.int k (if less b a then b else a))) r else none
  | _, _ => none

/-! ### Memory -/
/-- n cells from place j on replaced. -/
def splice (cs : List V) (j : Nat) (xs : List V) : List V := cs.take j ++ xs ++ cs.drop (j + xs.length)
def D.ofCells : List D → D
  | [c] => c
  | cs => .agg cs
def known : V → Bool
  | .poison => false
  | _ => true
def fillCells (z : List V) : List (Nat × Nat × V) → Option (List V)
  | [] => some z
  | (off, size, v) :: r => if known v ∧ v.cells.length = size ∧ off + size ≤ z.length then fillCells (splice z off v.cells) r else none
def fillRows (esz : Nat) (z : List (List V)) : List (Nat × V) → Option (List (List V))
  | [] => some z
  | (i, v) :: r => if known v ∧ v.cells.length = esz ∧ i < z.length then fillRows esz (z.set i v.cells) r else none
/-- What is told of an empty slice is forgotten. -/
def norm : V → V
  | .nils | .emp | .non => .d (.slice [])
  | .lit es => .d (.slice es)
  | v => v
def loadV (s : Store) (agg : Bool) (n : Nat) (a : V) : Option V :=
  match a with
  | .d (.iptr cs off) =>
    if off + n ≤ cs.length then (if agg then some (.d (.agg ((cs.drop off).take n))) else (cs[off]?).map .d) else none
  | .ptr id ver i j =>
    match getB s id with
    | some (.rows v _ _ els) =>
      if v = ver then
        match els[i]? with
        | some cs => if j + n ≤ cs.length then (if agg then some (mkAgg ((cs.drop j).take n)) else cs[j]?) else none
        | none => none
      else none
    | _ => none
  | _ => none
def storeV (s : Store) (n : Nat) (a x : V) : Option Store :=
  match a with
  | .ptr id ver i j =>
    match getB s id with
    | some (.rows v false esz els) =>
      if v = ver ∧ x.cells.length = n ∧ x.cells.all scalarV then
        match els[i]? with
        | some cs => if j + n ≤ cs.length then some (setB s id (.rows v false esz (els.set i (splice cs j x.cells)))) else none
        | none => none
      else none
    | _ => none
  | _ => none
/-- The elements of a slice that nothing will change. -/
def litElems : V → Option (List D)
  | .d (.slice es) => some es
  | .lit es => some es
  | _ => none
/-- Elements of so many cells. -/
def wide (n : Nat) (es : List D) : Bool := es.all fun e => e.cells.length == n
/-- The rows that a slice shows. -/
def rowsOf (s : Store) (esz : Nat) (x : V) : Option (List (List V)) :=
  match x with
  | .nils | .emp | .non => some []
  | .d (.slice es) => if wide esz es then some (es.map fun e => e.cells.map .d) else none
  | .lit es => if wide esz es then some (es.map fun e => e.cells.map .d) else none
  | .ms id ver off len =>
    match getB s id with
    | some (.rows v _ n els) => if v = ver ∧ n = esz ∧ off + len ≤ els.length then some ((els.drop off).take len) else none
    | _ => none
  | _ => none
def lenV (s : Store) : V → Option Nat
  | .nils | .emp | .non => some 0
  | .d (.slice es) => some es.length
  | .lit es => some es.length
  | .d (.str b) => some b.size
  | .ms id ver _ len => if verOf s id = some ver then some len else none
  | .asl id ver _ _ len => if verOf s id = some ver then some len else none
  | .d .nilm => some 0
  | .map id => match getB s id with | some (.map es) => some es.length | _ => none
  | _ => none
def intV (n : Int) : V := .d (.int .i64 n)
/-- A bound of a slice expression. -/
def bound (v : Option V) (dflt : Nat) : Option Nat :=
  match v with
  | none => some dflt
  | some (.d (.int _ n)) => if 0 ≤ n then some n.toNat else none
  | _ => none
def sliceV (s : Store) (esz : Nat) (x : V) (lo hi : Option V) : Option V :=
  match lenV s x with
  | none => none
  | some len =>
    match bound lo 0, bound hi len with
    | some l, some h =>
      if l ≤ h ∧ h ≤ len then
        match x with
        | .d (.str b) => some (.d (.str (b.extract l h)))
        | .nils => some .nils
        | .emp => some .emp
        | .d (.slice es) => if wide esz es then some (.d (.slice ((es.drop l).take (h - l)))) else none
        | .lit es => if wide esz es then some (.d (.slice ((es.drop l).take (h - l)))) else none
        | .ms id ver off _ =>
          if h = l then some (.d (.slice []))
          else (match getB s id with | some (.rows _ _ e _) => if e = esz then some (.ms id ver (off + l) (h - l)) else none | _ => none)
        | _ => none
      else none
    | _, _ => none
/-- An array's address, sliced. -/
def slarrV (s : Store) (n esz : Nat) (x : V) (lo hi : Option V) : Option V :=
  match bound lo 0, bound hi n with
  | some l, some h =>
    if l ≤ h ∧ h ≤ n ∧ esz = 1 then
      match x with
      | .d (.iptr cs off) => if off + n ≤ cs.length ∧ ((cs.drop (off + l)).take (h - l)).all scalarD then some (.d (.slice ((cs.drop (off + l)).take (h - l)))) else none
      | .ptr id ver i j =>
        if h = l then some (.d (.slice []))
        else match getB s id with
          | some (.rows v _ _ els) => match els[i]? with | some cs => if v = ver ∧ j + n ≤ cs.length then some (.asl id ver i (j + l) (h - l)) else none | none => none
          | _ => none
      | _ => none
    else none
  | _, _ => none
def idx (i : V) : Option Nat := match i with | .d (.int _ n) => if 0 ≤ n then some n.toNat else none | _ => none
def iaddrSV (s : Store) (esz : Nat) (x i : V) : Option V :=
  match idx i with
  | none => none
  | some k =>
    match x with
    | .d (.slice es) => match es[k]? with | some e => if e.cells.length = esz then some (.d (.iptr e.cells 0)) else none | none => none
    | .lit es => match es[k]? with | some e => if e.cells.length = esz then some (.d (.iptr e.cells 0)) else none | none => none
    | .ms id ver off len =>
      match getB s id with
      | some (.rows v _ n els) => if v = ver ∧ n = esz ∧ k < len ∧ off + len ≤ els.length then some (.ptr id ver (off + k) 0) else none
      | _ => none
    | .asl id ver a b len =>
      if verOf s id = some ver ∧ k < len ∧ esz = 1 then some (.ptr id ver a (b + k)) else none
    | _ => none
def iaddrAV (n esz : Nat) (x i : V) : Option V :=
  match idx i with
  | none => none
  | some k =>
    if k < n then
      match x with
      | .d (.iptr cs off) => some (.d (.iptr cs (off + k * esz)))
      | .ptr id ver a b => some (.ptr id ver a (b + k * esz))
      | _ => none
    else none
def faddrV (off : Nat) (x : V) : Option V :=
  match x with
  | .d (.iptr cs o) => some (.d (.iptr cs (o + off)))
  | .ptr id ver a b => some (.ptr id ver a (b + off))
  | _ => none
def nilcV (x : V) : Option V :=
  match x with
  | .d (.iptr _ _) | .ptr _ _ _ _ | .d (.func _ _ _) | .func _ _ _ | .yield _ => some x
  | _ => none
def indexV (x i : V) : Option V :=
  match idx i with
  | none => none
  | some k =>
    match x with
    | .d (.str b) => (b[k]?).map fun c => .d (.int .u8 c.toNat)
    | _ => none
def indexAV (n : Nat) (x i : V) : Option V :=
  match idx i with
  | none => none
  | some k =>
    if k < n then
      match x with
      | .d (.agg cs) => (cs[k]?).map .d
      | _ => none
    else none
/-- The place of a key; 'none' where it can't be told. -/
def findK (c : Cmp) (k : D) : List (D × V) → Nat → Option (Option (Nat × V))
  | [], _ => some none
  | (x, v) :: r, i => match eqK c k x with
    | some true => some (some (i, v))
    | some false => findK c k r (i + 1)
    | none => none
def eqSelf (c : Cmp) (k : D) : Bool := eqK c k k == some true
def lookupV (s : Store) (c : Cmp) (z : V) (m k : V) (ok : Bool) : Option V :=
  match k with
  | .d k =>
    if eqSelf c k then
      match (match m with | .d .nilm => some [] | .map id => (match getB s id with | some (.map es) => some es | _ => none) | _ => none) with
      | some es => match findK c k es 0 with
        | some (some (_, v)) => some (if ok then mkTuple [v, .d (.bool true)] else v)
        | some none => some (if ok then mkTuple [z, .d (.bool false)] else z)
        | none => none
      | none => none
    else none
  | _ => none
def mapupV (s : Store) (c : Cmp) (m k x : V) : Option Store :=
  match m, k with
  | .map id, .d k =>
    if eqSelf c k then
      match getB s id with
      | some (.map es) => match findK c k es 0 with
        | some (some (i, _)) => some (setB s id (.map (es.set i (k, x))))
        | some none => some (setB s id (.map (es ++ [(k, x)])))
        | none => none
      | _ => none
    else none
  | _, _ => none
/-- What may be appended to: the limit of what a slice may grow to. -/
def roomy (n bytes : Nat) : Bool := decide ((2 * n + 768) * bytes ≤ 2 ^ 47) && decide (n ≤ 2 ^ 46)
def appendV (s : Store) (id esz bytes : Nat) (x y : V) : Option (V × Store) :=
  match rowsOf s esz y with
  | none => none
  | some ys =>
    match x with
    | .nils => if ys = [] then some (.nils, s) else if ys.all (fun r => r.length == esz && r.all scalarV) && roomy ys.length bytes then (newB s id (.rows 0 false esz ys)).map fun s => (.ms id 0 0 ys.length, s) else none
    | .emp => if ys = [] then some (.emp, s) else if ys.all (fun r => r.length == esz && r.all scalarV) && roomy ys.length bytes then (newB s id (.rows 0 false esz ys)).map fun s => (.ms id 0 0 ys.length, s) else none
    | .lit es =>
      if ys = [] then some (.lit es, s)
      else
        let all := (es.map fun e => e.cells.map V.d) ++ ys
        if all.all (fun r => r.length == esz && r.all scalarV) && roomy all.length bytes then (newB s id (.rows 0 false esz all)).map fun s => (.ms id 0 0 all.length, s) else none
    | .ms b ver off len =>
      match getB s b with
      | some (.rows v false n els) =>
        if v = ver ∧ n = esz ∧ off + len ≤ els.length then
          if ys = [] then some (.ms b ver off len, s)
          else if off = 0 ∧ ys.all (fun r => r.length == esz && r.all scalarV) ∧ roomy (len + ys.length) bytes then
            some (.ms b (ver + 1) 0 (len + ys.length), setB s b (.rows (ver + 1) false esz (els.take len ++ ys)))
          else none
        else none
      | _ => none
    | _ => none
def clearV (s : Store) (z : List V) (x : V) : Option Store :=
  match x with
  | .nils | .emp => some s
  | .d (.slice []) => some s
  | .ms id ver off len =>
    match getB s id with
    | some (.rows v false n els) =>
      if v = ver ∧ n = z.length ∧ off + len ≤ els.length ∧ z.all scalarV then
        some (setB s id (.rows v false n (els.take off ++ List.replicate len z ++ els.drop (off + len))))
      else none
    | _ => none
  | _ => none

/-! ### References, and how they are renamed -/
section
variable (f : V → Option (D × List Nat))
def cellsDW : List V → Option (List D × List Nat)
  | [] => some ([], [])
  | x :: xs => match f x, cellsDW xs with | some (d, a), some (ds, b) => some (d :: ds, a ++ b) | _, _ => none
def rowsDW : List (List V) → Option (List D × List Nat)
  | [] => some ([], [])
  | r :: rs => match cellsDW f r, rowsDW rs with | some (c, a), some (ds, b) => some (.ofCells c :: ds, a ++ b) | _, _ => none
end
/-- A value as data, with the blocks that this closes to writing. -/
def toD (s : Store) : Nat → V → Option (D × List Nat)
  | 0, _ => none
  | n + 1, v =>
    match v with
    | .d x => some (x, [])
    | .nils | .emp | .non => some (.slice [], [])
    | .lit es => some (.slice es, [])
    | .ms id ver off len =>
      match getB s id with
      | some (.rows v _ esz els) => if v = ver ∧ 0 < esz ∧ off + len ≤ els.length then (rowsDW (toD s n) ((els.drop off).take len)).map fun (es, a) => (.slice es, id :: a) else none
      | _ => none
    | .asl id ver i j len =>
      match getB s id with
      | some (.rows v _ _ els) => match els[i]? with
        | some cs => if v = ver ∧ j + len ≤ cs.length then (cellsDW (toD s n) ((cs.drop j).take len)).map fun (es, a) => (.slice es, id :: a) else none
        | none => none
      | _ => none
    | .ptr id ver i j =>
      match getB s id with
      | some (.rows v _ _ els) => match els[i]? with
        | some cs => if v = ver then (cellsDW (toD s n) cs).map fun (es, a) => (.iptr es j, id :: a) else none
        | none => none
      | _ => none
    | .agg cs => (cellsDW (toD s n) cs).map fun (es, a) => (.agg es, a)
    | .tuple cs => (cellsDW (toD s n) cs).map fun (es, a) => (.tuple es, a)
    | .func f x y => match cellsDW (toD s n) x, cellsDW (toD s n) y with | some (a, p), some (b, q) => some (.func f a b, p ++ q) | _, _ => none
    | _ => none
def depthD : Nat := 30
def rowsD (s : Store) (n : Nat) (rs : List (List V)) : Option (List D × List Nat) := rowsDW (toD s n) rs
def closeB (s : Store) (ids : List Nat) : Store :=
  ids.foldl (fun s id => match getB s id with | some (.rows v _ e els) => setB s id (.rows v true e els) | _ => s) s
/-- Nothing that could point at memory. -/
def flatD : D → Bool
  | .bool _ | .int _ _ | .str _ | .nilp | .nilf | .nilm | .nili => true
  | .tuple vs => vs.all fun | .bool _ | .int _ _ | .str _ => true | _ => false
  | _ => false
mutual
def refs : V → List Nat
  | .ptr id _ _ _ | .ms id _ _ _ | .asl id _ _ _ _ | .map id | .yield id => [id]
  | .agg cs | .tuple cs => refsL cs
  | .func _ a b => refsL a ++ refsL b
  | _ => []
def refsL : List V → List Nat
  | [] => []
  | x :: xs => refs x ++ refsL xs
end
def refsE : List (Nat × V) → List Nat
  | [] => []
  | (_, x) :: xs => refs x ++ refsE xs
def refsM : List (D × V) → List Nat
  | [] => []
  | (_, x) :: xs => refs x ++ refsM xs
def refsR : List (List V) → List Nat
  | [] => []
  | r :: rs => refsL r ++ refsR rs
def refsB : Blk → List Nat
  | .rows _ _ _ els => refsR els
  | .map es => refsM es
  | .loop _ _ env _ _ _ => refsE env
/-- ids with what they lead to. -/
def reach (s : Store) : Nat → List Nat → List Nat → List Nat
  | 0, _, seen => seen
  | _, [], seen => seen
  | n + 1, i :: todo, seen =>
    if seen.contains i then reach s n todo seen
    else match getB s i with
      | some b => reach s n (todo ++ refsB b) (seen ++ [i])
      | none => reach s n todo seen
def pos (ids : List Nat) (i : Nat) : Option Nat := ids.findIdx? (· == i)
mutual
def ren (m : Nat → Option Nat) : V → V
  | .ptr id v i j => match m id with | some k => .ptr k v i j | none => .poison
  | .ms id v o l => match m id with | some k => .ms k v o l | none => .poison
  | .asl id v i j l => match m id with | some k => .asl k v i j l | none => .poison
  | .map id => match m id with | some k => .map k | none => .poison
  | .yield id => match m id with | some k => .yield k | none => .poison
  | .agg cs => .agg (renL m cs)
  | .tuple cs => .tuple (renL m cs)
  | .func f a b => .func f (renL m a) (renL m b)
  | v => v
def renL (m : Nat → Option Nat) : List V → List V
  | [] => []
  | x :: xs => ren m x :: renL m xs
end
def renE (m : Nat → Option Nat) (l : List (Nat × V)) : List (Nat × V) := l.map fun (t, x) => (t, ren m x)
def renB (m : Nat → Option Nat) : Blk → Blk
  | .rows v ro e els => .rows v ro e (els.map (renL m))
  | .map es => .map (es.map fun (k, x) => (k, ren m x))
  | .loop st p env ps a b => .loop st p (renE m env) ps a b
/-- The blocks of a list of ids, renamed. -/
def pack (s : Store) (ids : List Nat) (m : Nat → Option Nat) : Store := ids.map fun i => (getB s i).map (renB m)
def budget (_ : Store) : Nat := 100000
/-- Blocks below k stay where they are; what else is reached follows; what is not reached goes. -/
def refsAt (s : Store) : List Nat → List Nat
  | [] => []
  | i :: r => (match getB s i with | some b => refsB b | none => []) ++ refsAt s r
def gcIds (s : Store) (k : Nat) (roots : List Nat) : List Nat := reach s (budget s) (roots ++ refsAt s (List.range k)) (List.range k)
def envOf (l : List (Nat × V)) : Env := l.foldr (fun (t, v) e => upd e t v) e0
def lives (e : Env) (live : List Nat) : List (Nat × V) := live.map fun t => (t, e t)

/-! ### Running -/
inductive Tgt where
  | fn (f : Nat)
  | round (id : Nat)
/-- What a call does: arguments and the blocks that they may reach in, a result and these blocks behind the call (new ones behind the old) out. -/
abbrev CallSem := Tgt → List V → Store → Option (V × Store)

inductive Res where
  | val (v : V)
  | none
/-- Arguments: as data where the callee takes data. -/
def convArgs (s : Store) : List Bool → List V → Option (List V × List Nat)
  | _, [] => some ([], [])
  | true :: fs, x :: xs => (convArgs s fs xs).map fun (ys, a) => (x :: ys, a)
  | fs, x :: xs => match toD s depthD x, convArgs s (fs.drop 1) xs with
    | some (d, a), some (ys, b) => some (.d d :: ys, a ++ b)
    | _, _ => none
def allS (s : Store) : Bool := s.all (·.isSome)
/-- The lent blocks come back. -/
def backB (m : Nat → Option Nat) : List Nat → Store → Store → Store
  | i :: ids, b :: bs, s => backB m ids bs (s.set i (b.map (renB m)))
  | _, _, s => s
/-- Nothing of what was handed over can be kept: it may be written again. -/
def lends (ids : List Nat) (bs : Store) (r : V) : Bool := ids.isEmpty && bs.isEmpty && (match r with | .d x => flatD x | _ => false)
def rootsT : Tgt → List Nat
  | .round id => [id]
  | .fn _ => []
def tgtAt (m : Nat → Option Nat) : Tgt → Option Tgt
  | .round id => (m id).map .round
  | .fn f => some (.fn f)
def backOf (ids : List Nat) (bs : Store) (n0 : Nat) : Nat → Option Nat := fun i => if i < ids.length then ids[i]? else if i < bs.length then some (n0 + (i - ids.length)) else none
def storeBack (ids : List Nat) (bs s : Store) (m : Nat → Option Nat) : Store := backB m ids bs s ++ (bs.drop ids.length).map fun b => b.map (renB m)
/-- A call out of a store, to so many blocks of it. -/
def callIds (call : CallSem) (t : Tgt) (as : List V) (fz ids : List Nat) (s : Store) : Option (V × Store) :=
  if ids.all (fun i => !fz.contains i) then
    match tgtAt (pos ids) t with
    | none => none
    | some t' =>
      match call t' (renL (pos ids) as) (pack s ids (pos ids)) with
      | none => none
      | some (r, bs) =>
        if ids.length ≤ bs.length ∧ allS (bs.take ids.length) then
          some (ren (backOf ids bs s.length) r, storeBack ids bs (if lends ids bs r then s else closeB s fz) (backOf ids bs s.length))
        else none
  else none
def callOut (call : CallSem) (t : Tgt) (flags : List Bool) (args : List V) (s : Store) : Option (V × Store) :=
  match convArgs s flags args with
  | none => none
  | some (as, fz) => callIds call t as fz (reach s (budget s) (rootsT t ++ refsL as) []) s
def target (v : V) : Option (Tgt × List V × List V) :=
  match v with
  | .d (.func f a b) => some (.fn f, a.map .d, b.map .d)
  | .func f a b => some (.fn f, a, b)
  | .yield id => some (.round id, [], [])
  | _ => none
/-- A value of the kind whose length is asked. -/
def lenK : Cmp → V → Bool
  | .str, .d (.str _) => true
  | .map, .d .nilm | .map, .map _ => true
  | .slice, .nils | .slice, .emp | .slice, .non | .slice, .d (.slice _) | .slice, .lit _ | .slice, .ms _ _ _ _ | .slice, .asl _ _ _ _ _ => true
  | _, _ => false
def isStr : V → Bool
  | .d (.str _) => true
  | _ => false
def zeroRows (n : Nat) (z : List V) : List (List V) := List.replicate n z
def runOp (call : CallSem) (flags : Nat → List Bool) (base : Nat) (op : VOp) (e : Env) (s : Store) : Option (Res × Store) :=
  let v (x : Option V) : Option (Res × Store) := x.map fun x => (.val x, s)
  let u (x : Option Store) : Option (Res × Store) := x.map fun s => (.none, s)
  match op with
  | .fail => none
  | .mv x => some (.val (ev e x), s)
  | .pick c a b => match ev e c with | .d (.bool t) => some (.val (if t then ev e a else ev e b), s) | _ => none
  | .alloc slot z => if z.all scalarV then (newB s (base + slot) (.rows 0 false z.length [z])).map fun s => (.val (.ptr (base + slot) 0 0 0), s) else none
  | .box slot x => let z := (ev e x).cells; if z.all scalarV then (newB s (base + slot) (.rows 0 false z.length [z])).map fun s => (.val (.ptr (base + slot) 0 0 0), s) else none
  | .build z parts => v ((fillCells z (parts.map fun (o, n, x) => (o, n, ev e x))).map mkAgg)
  | .bslice esz z n parts => match fillRows esz (zeroRows n z) (parts.map fun (i, x) => (i, ev e x)) with
    | some rs => if rs.all (·.all scalarV) then (rowsD s depthD rs).map fun (es, fz) => (.val (.lit es), closeB s fz) else none
    | none => none
  | .load agg n a => v (loadV s agg n (ev e a))
  | .store n a x => u (storeV s n (ev e a) (ev e x))
  | .nilc x => v (nilcV (ev e x))
  | .bin op cmp x y => v (bin op cmp (ev e x) (ev e y))
  | .un op x => v (un op (ev e x))
  | .conv k x => match ev e x with | .d (.int _ n) => some (.val (.d (.int k (k.wrap n))), s) | _ => none
  | .mkslice slot esz bytes z len cap =>
    match idx (ev e len), idx (ev e cap) with
    | some l, some c =>
      if l ≤ c ∧ roomy c bytes ∧ z.all scalarV ∧ z.length = esz then
        (newB s (base + slot) (.rows 0 false esz (zeroRows l z))).map fun s => (.val (.ms (base + slot) 0 0 l), s)
      else none
    | _, _ => none
  | .slice esz x lo hi => if isStr (ev e x) == (esz == 0) then v (sliceV s esz (ev e x) (lo.map (ev e)) (hi.map (ev e))) else none
  | .slarr n esz x lo hi => v (slarrV s n esz (ev e x) (lo.map (ev e)) (hi.map (ev e)))
  | .faddr off x => v (faddrV off (ev e x))
  | .iaddrS esz x i => v (iaddrSV s esz (ev e x) (ev e i))
  | .iaddrA n esz x i => v (iaddrAV n esz (ev e x) (ev e i))
  | .index x i => v (indexV (ev e x) (ev e i))
  | .indexA n x i => v (indexAV n (ev e x) (ev e i))
  | .lookup c z m k ok => v (lookupV s c z (ev e m) (ev e k) ok)
  | .mapup c m k x => u (mapupV s c (ev e m) (ev e k) (ev e x))
  | .mkmap slot => (newB s (base + slot) (.map [])).map fun s => (.val (.map (base + slot)), s)
  | .ext x i => match ev e x with | .d (.tuple vs) => v ((vs[i]?).map .d) | .tuple vs => v (vs[i]?) | _ => none
  | .mkfunc f a b => some (.val (mkFunc f (a.map (ev e)) (b.map (ev e))), s)
  | .call f args => (callOut call (.fn f) (flags f) (args.map (ev e)) s).map fun (r, s) => (.val r, s)
  | .callv f args =>
    match target (ev e f) with
    | some (t, a, b) => (callOut call t (match t with | .fn f => flags f | .round _ => []) (a ++ args.map (ev e) ++ b) s).map fun (r, s) => (.val r, s)
    | none => none
  | .len c x => if lenK c (ev e x) then v ((lenV s (ev e x)).map fun n => intV n) else none
  | .append slot esz bytes x y => (appendV s (base + slot) esz bytes (ev e x) (ev e y)).map fun (r, s) => (.val r, s)
  | .max xs => match xs.map (ev e) with | x :: r => v (minmax (fun b a => decide (b > a)) x r) | [] => none
  | .min xs => match xs.map (ev e) with | x :: r => v (minmax (fun b a => decide (b < a)) x r) | [] => none
  | .clear z x => (clearV s z (ev e x)).map fun s => (.val (.d (.tuple [])), s)
  | .mslice slot esz z n parts => match fillRows esz (zeroRows n z) (parts.map fun (i, x) => (i, ev e x)) with
    | some rs => if rs.all (·.all scalarV) then (newB s (base + slot) (.rows 0 false esz rs)).map fun s => (.val (.ms (base + slot) 0 0 n), s) else none
    | none => none
/-- Is a guarded operation wanted? -/
def wants (g : Option (Nat × Bool)) (e : Env) : Option Bool :=
  match g with
  | none => some true
  | some (t, want) => match e t with
    | .d (.bool b) => some (b == want)
    | .d (.tuple []) => some false
    | _ => none
def skipV : V := .d (.tuple [])
def runOper (call : CallSem) (flags : Nat → List Bool) (base : Nat) (o : VOper) (e : Env) (s : Store) : Option (Env × Store) :=
  match wants o.guard e with
  | none => none
  | some false => some (put e o.dst skipV, s)
  | some true => match runOp call flags base o.op e s with
    | some (.val x, s') => some (put e o.dst x, s')
    | some (.none, s') => some (put e o.dst skipV, s')
    | none => none
def runOps (call : CallSem) (flags : Nat → List Bool) (base : Nat) : List VOper → Env → Store → Option (Env × Store)
  | [], e, s => some (e, s)
  | o :: os, e, s => match runOper call flags base o e s with
    | some (e', s') => runOps call flags base os e' s'
    | none => none
mutual
/-- Are two data the same? -/
def beqD : D → D → Bool
  | .bool a, .bool b => a == b
  | .int k a, .int k' b => k == k' && a == b
  | .str a, .str b => a == b
  | .nilp, .nilp | .nilf, .nilf | .nilm, .nilm | .nili, .nili => true
  | .slice a, .slice b => beqDs a b
  | .iptr a i, .iptr b j => beqDs a b && i == j
  | .agg a, .agg b => beqDs a b
  | .tuple a, .tuple b => beqDs a b
  | .func f a b, .func g c d => f == g && beqDs a c && beqDs b d
  | _, _ => false
def beqDs : List D → List D → Bool
  | [], [] => true
  | x :: xs, y :: ys => beqD x y && beqDs xs ys
  | _, _ => false
end
mutual
def beqV : V → V → Bool
  | .poison, .poison => true
  | .d a, .d b => beqD a b
  | .nils, .nils | .emp, .emp | .non, .non => true
  | .lit a, .lit b => beqDs a b
  | .ptr a b c d, .ptr a' b' c' d' => Nat.beq a a' && Nat.beq b b' && Nat.beq c c' && Nat.beq d d'
  | .ms a b c d, .ms a' b' c' d' => Nat.beq a a' && Nat.beq b b' && Nat.beq c c' && Nat.beq d d'
  | .asl a b c d e, .asl a' b' c' d' e' => Nat.beq a a' && Nat.beq b b' && Nat.beq c c' && Nat.beq d d' && Nat.beq e e'
  | .agg a, .agg b => beqVs a b
  | .tuple a, .tuple b => beqVs a b
  | .func f a b, .func g c d => Nat.beq f g && beqVs a c && beqVs b d
  | .map a, .map b => Nat.beq a b
  | _, _ => false
def beqVs : List V → List V → Bool
  | [], [] => true
  | x :: xs, y :: ys => beqV x y && beqVs xs ys
  | _, _ => false
end
def beqRows : List (List V) → List (List V) → Bool
  | [], [] => true
  | x :: xs, y :: ys => beqVs x y && beqRows xs ys
  | _, _ => false
def beqM : List (D × V) → List (D × V) → Bool
  | [], [] => true
  | x :: xs, y :: ys => beqD x.1 y.1 && beqV x.2 y.2 && beqM xs ys
  | _, _ => false
def beqB : Option Blk → Option Blk → Bool
  | none, none => true
  | some (.rows v ro e els), some (.rows v' ro' e' els') => Nat.beq v v' && (ro == ro') && Nat.beq e e' && beqRows els els'
  | some (.map a), some (.map b) => beqM a b
  | _, _ => false
def beqS : Store → Store → Bool
  | [], [] => true
  | x :: xs, y :: ys => beqB x y && beqS xs ys
  | _, _ => false
/-- What an operation may read and write of memory. 'len': there are more blocks now. -/
structure Foot where
  rd : List Nat
  wr : List Nat
  len : Bool
  deriving Inhabited
def refOf (v : V) : List Nat := match v with | .ptr id _ _ _ | .ms id _ _ _ | .asl id _ _ _ _ | .map id => [id] | _ => []
/-- The blocks that 'reach' looks at. -/
def looked (s : Store) : Nat → List Nat → List Nat → List Nat
  | 0, _, _ => []
  | _, [], _ => []
  | n + 1, i :: todo, seen =>
    if seen.contains i then looked s n todo seen
    else match getB s i with
      | some b => i :: looked s n (todo ++ refsB b) (seen ++ [i])
      | none => i :: looked s n todo seen
/-- Blocks that are not as they were. -/
def touched (s s' : Store) (ids : List Nat) : List Nat := ids.filter fun i => !(Nat.blt i s.length && Nat.blt i s'.length && beqB (getB s i) (getB s' i))
def footCall (fine : Bool) (t : Tgt) (flags : List Bool) (args : List V) (s s' : Store) : Foot :=
  match convArgs s flags args with
  | some (as, fz) =>
    let ids := fz ++ looked s (budget s) (rootsT t ++ refsL as) []
    ⟨ids, (bif fine then touched s s' ids else ids) ++ List.range' s.length (s'.length - s.length), s'.length != s.length⟩
  | none => ⟨[], [], false⟩
def footOp (fine : Bool) (flags : Nat → List Bool) (base : Nat) (op : VOp) (e : Env) (s s' : Store) : Foot :=
  let r (x : Opd) : Foot := ⟨refOf (ev e x), [], false⟩
  let w (x : Opd) : Foot := ⟨refOf (ev e x), refOf (ev e x), false⟩
  match op with
  | .load _ _ a => r a
  | .store _ a _ => w a
  | .slice _ x _ _ => r x
  | .slarr _ _ x _ _ => r x
  | .iaddrS _ x _ => r x
  | .len _ x => r x
  | .lookup _ _ m _ _ => r m
  | .mapup _ m _ _ => w m
  | .clear _ x => w x
  | .bslice esz z n parts => match fillRows esz (zeroRows n z) (parts.map fun (i, x) => (i, ev e x)) with
    | some rs => match rowsD s depthD rs with
      | some (_, fz) => ⟨fz, fz, false⟩
      | none => ⟨[], [], false⟩
    | none => ⟨[], [], false⟩
  | .alloc slot _ | .box slot _ | .mkslice slot _ _ _ _ _ | .mkmap slot | .mslice slot _ _ _ _ => ⟨[base + slot], [base + slot], false⟩
  | .append slot _ _ x y => ⟨(base + slot) :: (refOf (ev e x) ++ refOf (ev e y)), (base + slot) :: refOf (ev e x), false⟩
  | .call f args => footCall fine (.fn f) (flags f) (args.map (ev e)) s s'
  | .callv f args =>
    match target (ev e f) with
    | some (t, a, b) => footCall fine t (match t with | .fn f => flags f | .round _ => []) (a ++ args.map (ev e) ++ b) s s'
    | none => ⟨[], [], false⟩
  | _ => ⟨[], [], false⟩
def footOper (fine : Bool) (flags : Nat → List Bool) (base : Nat) (o : VOper) (e : Env) (s s' : Store) : Foot :=
  match wants o.guard e with
  | some true => footOp fine flags base o.op e s s'
  | _ => ⟨[], [], false⟩
def runOpsF (fine : Bool) (call : CallSem) (flags : Nat → List Bool) (base : Nat) : List VOper → Env → Store → Option (Env × Store × List Foot)
  | [], e, s => some (e, s, [])
  | o :: os, e, s => match runOper call flags base o e s with
    | some (e', s') => (runOpsF fine call flags base os e' s').map fun (e'', s'', fs) => (e'', s'', footOper fine flags base o e s s' :: fs)
    | none => none
def apart (a b : List Nat) : Bool := a.all fun x => !b.contains x
def indep (a b : Foot) : Bool := !(a.len && b.len) && apart a.wr b.rd && apart a.wr b.wr && apart a.rd b.wr
def loose (feet : List Foot) : List (Nat × Nat) → Bool
  | [] => true
  | (i, j) :: r => (match feet[i]?, feet[j]? with | some a, some b => indep a b | _, _ => false) && loose feet r
inductive Out where
  | normal | exit (id : Nat) | ret
  deriving DecidableEq, Inhabited
structure St where
  e : Env
  s : Store
def runRegion (call : CallSem) (flags : Nat → List Bool) (draw : Option (List (Nat × Nat))) (slots : Nat) (ops : List VOper) (e : Env) (s : Store) : Option (Env × Store) :=
  let s1 := s ++ List.replicate slots none
  match draw with
  | none => runOps call flags s.length ops e s1
  | some pairs => match runOpsF false call flags s.length ops e s1 with
    | some (e', s', feet) => if loose feet pairs then some (e', s') else
      match runOpsF true call flags s.length ops e s1 with
      | some (e', s', feet) => if loose feet pairs then some (e', s') else none
      | none => none
    | none => none
/-- The garbage of a round goes; only what is live stays. k: so many blocks are the caller's. -/
def sweep (k : Nat) (live : List Nat) (e : Env) (s : Store) : Env × Store :=
  let l := lives e live
  let ids := gcIds s k (refsE l)
  (envOf (renE (pos ids) l), pack s ids (pos ids))
def iter (step : Env → Store → Option (Out × Env × Store)) : Nat → Env → Store → Option (Out × Env × Store)
  | 0, _, _ => none
  | n + 1, e, s => match step e s with
    | some (.normal, e', s') => iter step n e' s'
    | r => r
/-- A range over a function: the record is laid, the function is called with 'yield', the pending jump is taken up. -/
def runRange (call : CallSem) (flags : Nat → List Bool) (f : V) (live params : List Nat) (assign body : VCode) (e : Env) (s : Store) : Option (Out × Env × Store) :=
  let id := s.length
  let s1 := s ++ [some (.loop 0 .none (lives e live) params assign body)]
  match target f with
  | some (.fn g, a, b) =>
    match callOut call (.fn g) (flags g) (a ++ [.yield id] ++ b) s1 with
    | some (_, s2) => match getB s2 id with
      | some (.loop st j env' ps' a' b') =>
        if st = 1 then none
        else
          let s3 := setB s2 id (.loop 3 j env' ps' a' b')
          match j with
          | .none => some (.normal, e, s3)
          | .exit x => some (.exit x, e, s3)
          | .ret => some (.ret, e, s3)
      | _ => none
    | none => none
  | _ => none
def runCode (call : CallSem) (flags : Nat → List Bool) (k : Nat) (fuel : Nat) : VCode → Env → Store → Option (Out × Env × Store)
  | .skip, e, s => some (.normal, e, s)
  | .region draw slots ops, e, s => (runRegion call flags draw slots ops e s).map fun (e', s') => (.normal, e', s')
  | .seq a b, e, s => match runCode call flags k fuel a e s with
    | some (.normal, e', s') => runCode call flags k fuel b e' s'
    | r => r
  | .cond c a b, e, s => match ev e c with
    | .d (.bool true) => runCode call flags k fuel a e s
    | .d (.bool false) => runCode call flags k fuel b e s
    | _ => none
  | .block id body, e, s => match runCode call flags k fuel body e s with
    | some (.exit i, e', s') => if i = id then some (.normal, e', s') else some (.exit i, e', s')
    | r => r
  | .loop live body, e, s => iter (fun e s => let (e1, s1) := sweep k live e s; runCode call flags k fuel body e1 s1) fuel e s
  | .rangeFunc f live params assign body, e, s => runRange call flags (ev e f) live params assign body e s
  | .exit id, e, s => some (.exit id, e, s)
  | .ret, e, s => some (.ret, e, s)
  | .fail, _, _ => none
/-! ### Functions -/
def resOf (e : Env) (s : Store) : VRes → Option V
  | .t n => some (e n)
  | .cell t agg n => loadV s agg n (e t)
def results (e : Env) (s : Store) : List VRes → Option (List V)
  | [] => some []
  | r :: rs => match resOf e s r, results e s rs with | some x, some xs => some (x :: xs) | _, _ => none
def oneOf (xs : List V) : V := match xs with | [x] => x | xs => mkTuple xs
/-- A function's end: what it hands back, and the blocks that were lent to it. -/
def leave (keep : Bool) (k : Nat) (r : V) (s : Store) : Option (V × Store) :=
  if keep then
    let ids := gcIds s k (refs r)
    some (ren (pos ids) r, pack s ids (pos ids))
  else
    match toD s depthD r with
    | some (d, fz) =>
      let ids := gcIds (closeB s fz) k []
      some (.d d, pack (closeB s fz) ids (pos ids))
    | none => none
def argEnv : Nat → List V → Env
  | _, [] => e0
  | i, x :: xs => upd (argEnv (i + 1) xs) i x
abbrev VProg := Nat → Option VFun
def flagsOf (p : VProg) (f : Nat) : List Bool := match p f with | some fn => fn.byRef | none => []
def runFn (p : VProg) (call : CallSem) (fuel : Nat) (fn : VFun) (args : List V) (bs : Store) : Option (V × Store) :=
  match runCode call (flagsOf p) bs.length fuel fn.body (argEnv 0 args) bs with
  | some (.exit _, _, _) => none
  | some (_, e, s) => match results e s fn.res with
    | some rs => leave fn.keep bs.length (oneOf rs) s
    | none => none
  | none => none
/-- One round of a range over a function. -/
def runRound (p : VProg) (call : CallSem) (fuel : Nat) (id : Nat) (args : List V) (bs : Store) : Option (V × Store) :=
  match getB bs id with
  | some (.loop 0 _ env params assign body) =>
    if args.length = params.length then
      let e := (params.zip args).foldl (fun e (t, a) => upd e t a) (envOf env)
      match runCode call (flagsOf p) bs.length fuel assign e bs with
      | some (.normal, e1, s1) =>
        match getB s1 id with
        | some (.loop 0 j env' ps' a' b') =>
          match runCode call (flagsOf p) bs.length fuel body e1 (setB s1 id (.loop 1 j env' ps' a' b')) with
          | some (out, _, s2) =>
            match getB s2 id with
            | some (.loop _ _ env' ps' a' b') =>
              let (st, j, r) := match out with | .normal => (0, Jump.none, true) | .exit i => (2, Jump.exit i, false) | .ret => (2, Jump.ret, false)
              leave true bs.length (.d (.bool r)) (setB s2 id (.loop st j env' ps' a' b'))
            | _ => none
          | none => none
        | _ => none
      | _ => none
    else none
  | _ => none
/-- Empty, with no room. -/
def bare : V → Bool
  | .nils | .emp | .lit [] => true
  | _ => false
def callN (p : VProg) : Nat → CallSem
  | 0 => fun _ _ _ => none
  | n + 1 => fun t args bs =>
    match t with
    | .fn f => match p f with
      | none => none
      | some fn =>
        if fn.split then
          match args, bs with
          | .d (.slice []) :: rest, [] =>
            match runFn p (callN p n) n fn (.nils :: rest) [], runFn p (callN p n) n fn (.non :: rest) [] with
            | some (x, []), some (y, []) => if bare x && bare y then some (.emp, []) else match norm x, norm y with | .d a, .d b => if beqD a b then some (.d a, []) else none | _, _ => none
            | _, _ => none
          | _, _ => runFn p (callN p n) n fn args bs
        else runFn p (callN p n) n fn args bs
    | .round id => runRound p (callN p n) n id args bs
end Go.Proofs.YtboekhenldifhaaGreat
