/- The loaded functions, compiled for the machine of this proof. Definitions alone. -/
import GoSem.Core.Region
import GoSem.Op.Equal
import Derived.Test.YtboekhenldifhaaGreatZvVm
namespace Go.Proofs.YtboekhenldifhaaGreat

/-- A cell's value. -/
def valS (tr : FuncId → Option Nat) : Value → V
  | .bool b => .d (.bool b)
  | .int k n => .d (.int k n)
  | .string s => .d (.str s)
  | .pointer none => .d .nilp
  | .slice none 0 0 => .nils
  | .nilFunc => .d .nilf
  | .map none => .d .nilm
  | .nilIface => .d .nili
  | .func (.func f) first captured => if first.isEmpty && captured.isEmpty then (match tr f with | some k => .d (.func k [] []) | none => .poison) else .poison
  | _ => .poison
def valV (tr : FuncId → Option Nat) : Value → V
  | .agg cs => mkAgg (cs.toList.map (valS tr))
  | .tuple cs => mkTuple (cs.toList.map (valS tr))
  | v => valS tr v
def opd (tr : FuncId → Option Nat) : Operand → Opd
  | .tmp t => .t t
  | .const v => .c (valV tr v)
  | .global _ => .c .poison
  | .func f => match tr f with | some k => .c (.d (.func k [] [])) | none => .c .poison

section
variable (P : Program) (tr : FuncId → Option Nat)
def sizeT (t : TypeId) : Option Nat := (P.info? t).map (·.size)
def bytesT (t : TypeId) : Option Nat := (P.info? t).map (·.bytes)
def zeroT (t : TypeId) : Option (List V) := (P.info? t).bind fun i => i.zero.map fun z => z.cells.toList.map (valS tr)
def aggT (t : TypeId) : Option Bool := (P.underlying t).map fun | .struct _ | .array _ _ => true | _ => false
/-- A whole number's type, of one cell. -/
def intT (t : TypeId) : Bool := (match P.underlying t with | some (.int _) => true | _ => false) && sizeT P t == some 1
/-- How values of a type are compared. -/
def cmpT (t : TypeId) : Cmp :=
  match P.underlying t with
  | some .bool => .bool
  | some (.int _) => .int
  | some .string => .str
  | some (.pointer _) => .ptr
  | some (.slice _) => .slice
  | some (.map _ _) => .map
  | some (.func _ _ _) => .func
  | some (.struct fs) => if !P.stoodInHeld t && !P.eqGuardType P.depth t && fs.toList.zipIdx.all (fun (f, i) => f.name != "_" && f.offset == i && intT P f.type) then .flat fs.size else .no
  | some (.array n e) => if !P.eqGuardType P.depth t && intT P e then .flat n else .no
  | _ => .no
def ints : Array Operand → List Opd := fun l => l.toList.map (opd tr)
/-- An operation; 'slot': the next block's place. -/
def compOp (mu : Bool) (slot : Nat) (o : Oper) : VOp × Nat :=
  let x := opd tr
  let ok (v : Option VOp) : VOp × Nat := (v.getD .fail, slot)
  let mk (v : Option VOp) : VOp × Nat := (v.getD .fail, slot + 1)
  match o.op with
  | .move a | .assign a => ok (some (.mv (x a)))
  | .pick c a b => ok (some (.pick (x c) (x a) (x b)))
  | .alloc t => mk ((zeroT P tr t).map fun z => .alloc slot z)
  | .box _ a => mk (some (.box slot (x a)))
  | .build t parts => ok do
    let z ← zeroT P tr t
    match ← P.underlying t with
    | .struct fields => if !(fields.toList.all fun f => (sizeT P f.type).isSome) then none else some (.build z (← parts.toList.mapM fun (i, a) => do let f ← fields[i]?; some (f.offset, ← sizeT P f.type, x a)))
    | .array _ e => let n ← sizeT P e; some (.build z (parts.toList.map fun (i, a) => (i * n, n, x a)))
    | _ => none
  | .buildSlice t len parts => bif mu && Nat.blt 0 len then mk (do
    let .slice e ← P.underlying t | none
    let n ← sizeT P e
    let z ← zeroT P tr e
    if len * n ≤ 2 ^ 20 ∧ z.length = n ∧ 0 < n then some (.mslice slot n z len (parts.toList.map fun (i, a) => (i, x a))) else none) else ok do
    let .slice e ← P.underlying t | none
    let n ← sizeT P e
    let z ← zeroT P tr e
    if len * n ≤ 2 ^ 20 ∧ z.length = n ∧ 0 < n then some (.bslice n z len (parts.toList.map fun (i, a) => (i, x a))) else none
  | .load t a => ok do
    let b ← aggT P t
    let n ← sizeT P t
    if b || n == 1 then some (.load b n (x a)) else none
  | .store t a b => ok do some (.store (← sizeT P t) (x a) (x b))
  | .nilCheck a => ok (some (.nilc (x a)))
  | .binOp op t a b _ => ok (some (.bin op (cmpT P t) (x a) (x b)))
  | .unOp op _ a => ok (some (.un op (x a)))
  | .convert s d a => ok (match P.underlying s, P.underlying d with | some (.int _), some (.int k) => some (.conv k (x a)) | _, _ => none)
  | .makeSlice t l c => mk do
    let .slice e ← P.underlying t | none
    let n ← sizeT P e
    let z ← zeroT P tr e
    if z.length = n ∧ 0 < n then some (.mkslice slot n (← bytesT P e) z (x l) (x c)) else none
  | .slice t a lo hi mx => ok (match P.underlying t with
    | some (.slice e) => (sizeT P e).bind fun n => if 0 < n && mx.isNone then some (.slice n (x a) (lo.map x) (hi.map x)) else none
    | some .string => if mx.isNone then some (.slice 0 (x a) (lo.map x) (hi.map x)) else none
    | some (.array n e) => if mx.isNone then (sizeT P e).map fun k => .slarr n k (x a) (lo.map x) (hi.map x) else none
    | _ => none)
  | .fieldAddr t a i => ok (match P.underlying t with | some (.struct fields) => (fields[i]?).bind fun f => (sizeT P f.type).bind fun n => if 0 < n then some (.faddr f.offset (x a)) else none | _ => none)
  | .indexAddr t a i => ok (match P.underlying t with
    | some (.slice e) => (sizeT P e).bind fun n => if 0 < n then some (.iaddrS n (x a) (x i)) else none
    | some (.array n e) => (sizeT P e).bind fun k => some (.iaddrA n k (x a) (x i))
    | _ => none)
  | .index t a i => ok (match P.underlying t with
    | some .string => some (.index (x a) (x i))
    | some (.array n e) => if sizeT P e = some 1 ∧ aggT P e = some false then some (.indexA n (x a) (x i)) else none
    | _ => none)
  | .lookup t m k c => ok (match P.underlying t with
    | some (.map kt e) => (P.info? e).bind fun i => i.zero.map fun z => .lookup (cmpT P kt) (valV tr z) (x m) (x k) c
    | _ => none)
  | .mapUpdate t m k v => ok (match P.underlying t with
    | some (.map kt _) => some (.mapup (cmpT P kt) (x m) (x k) (x v))
    | _ => none)
  | .makeMap _ none => mk (some (.mkmap slot))
  | .extract a i => ok (some (.ext (x a) i))
  | .makeFunc (.func f) a b => ok ((tr f).map fun k => .mkfunc k (ints tr a) (ints tr b))
  | .call c =>
    match c.callee with
    | .value (.func f) => ok ((tr f).map fun k => .call k (ints tr c.args))
    | .value f => ok (some (.callv (x f) (ints tr c.args)))
    | .builtin .len => match c.args.toList with
      | [a] => ok (match (c.argTypes[0]?).bind P.underlying with
        | some (.slice _) => some (.len .slice (x a))
        | some .string => some (.len .str (x a))
        | some (.map _ _) => some (.len .map (x a))
        | some (.array n _) => some (.mv (.c (intV n)))
        | _ => none)
      | _ => ok none
    | .builtin .append => match c.args.toList with
      | [a, b] => mk do
        let .slice e ← P.underlying (← c.argTypes[0]?) | none
        let .slice e' ← P.underlying (← c.argTypes[1]?) | none
        let n ← sizeT P e
        let z ← zeroT P tr e
        if sizeT P e' = some n ∧ 0 < n ∧ z.length = n then some (.append slot n (← bytesT P e) (x a) (x b)) else none
      | _ => ok none
    | .builtin .max => ok (some (.max (ints tr c.args)))
    | .builtin .min => ok (some (.min (ints tr c.args)))
    | .builtin .clear => match c.args.toList with
      | [a] => ok do
        let .slice e ← P.underlying (← c.argTypes[0]?) | none
        let z ← zeroT P tr e
        if sizeT P e = some z.length ∧ 0 < z.length then some (.clear z (x a)) else none
      | _ => ok none
    | _ => ok none
  | _ => ok none
end

/-! ### Regions -/
def tOf : Opd → List Nat
  | .t n => [n]
  | .c _ => []
def tsOf (l : List Opd) : List Nat := l.flatMap tOf
def opds : VOp → List Opd
  | .fail | .alloc _ _ | .mkmap _ => []
  | .mv x | .box _ x | .load _ _ x | .nilc x | .un _ x | .conv _ x | .faddr _ x | .ext x _ | .len _ x | .clear _ x => [x]
  | .pick c a b => [c, a, b]
  | .build _ ps => ps.map (·.2.2)
  | .bslice _ _ _ ps | .mslice _ _ _ _ ps => ps.map (·.2)
  | .store _ a b | .bin _ _ a b | .mkslice _ _ _ _ a b | .iaddrS _ a b | .iaddrA _ _ a b | .index a b | .indexA _ a b | .lookup _ _ a b _ | .append _ _ _ a b => [a, b]
  | .slice _ x a b | .slarr _ _ x a b => x :: (a.toList ++ b.toList)
  | .mapup _ a b c => [a, b, c]
  | .mkfunc _ a b => a ++ b
  | .call _ xs | .max xs | .min xs => xs
  | .callv f xs => f :: xs
def readsT (o : VOper) : List Nat := tsOf (opds o.op) ++ (match o.guard with | some (t, _) => [t] | none => [])
def memR : VOp → Bool
  | .bslice .. | .load .. | .store .. | .slice .. | .slarr .. | .iaddrS .. | .len .. | .lookup .. | .mapup .. | .clear .. | .append .. | .call .. | .callv .. => true
  | _ => false
def memW : VOp → Bool
  | .bslice .. | .store .. | .mapup .. | .clear .. | .append .. | .call .. | .callv .. | .alloc .. | .box .. | .mkslice .. | .mkmap .. | .mslice .. => true
  | _ => false
/-- Of each operation, those that come ahead of it, as bits. -/
def ancestors (ops : List Oper) : List Nat :=
  ops.foldl (fun acc o => acc ++ [((o.after.toList.filter fun e => Region.binds .any e).map (·.on)).foldl (fun m j => m ||| 2 ^ j ||| acc.getD j 0) 0]) []
def tempsApart (a b : VOper) : Bool :=
  (match a.dst with | some d => !(readsT b).contains d && b.dst != some d | none => true) &&
  (match b.dst with | some d => !(readsT a).contains d | none => true)
def memApart (a b : VOp) : Bool :=
  (!memW a && !memW b) || (!memW a && !memR a) || (!memW b && !memR b)
def backward (ops : List Oper) : Bool :=
  (ops.zipIdx).all fun (o, i) => o.after.all fun e => !Region.binds .any e || decide (e.on < i)
def pairsOf (anc : List Nat) (vs : List VOper) : List (Nat × Nat) :=
  (List.range vs.length).flatMap fun j => ((List.range j).filter fun i =>
    !(anc.getD j 0).testBit i && !memApart (vs.getD i default).op (vs.getD j default).op).map fun i => (i, j)
def tempsOk (anc : List Nat) (vs : List VOper) : Bool :=
  (List.range vs.length).all fun j => (List.range j).all fun i =>
    (anc.getD j 0).testBit i || tempsApart (vs.getD i default) (vs.getD j default)
def compOps (P : Program) (tr : FuncId → Option Nat) (mu : Bool) (all : Array Oper) : Nat → List Oper → List VOper × Nat
  | slot, [] => ([], slot)
  | slot, o :: os =>
    let (v, slot) := compOp P tr mu slot o
    let g : Option (Nat × Bool) × Bool := match o.guard with
      | none => (none, true)
      | some (j, want) => match (all[j]?).bind (·.dst) with | some t => (some (t, want), true) | none => (none, false)
    let (vs, slot) := compOps P tr mu all slot os
    ({ dst := o.dst, op := if g.2 then v else .fail, guard := g.1 } :: vs, slot)
def compRegion (P : Program) (tr : FuncId → Option Nat) (mu : Bool) (ops : Array Oper) (draw : Bool) : VCode :=
  let (vs, slots) := compOps P tr mu ops 0 ops.toList
  if draw then
    let anc := ancestors ops.toList
    if backward ops.toList && tempsOk anc vs then .region (some (pairsOf anc vs)) slots vs else .fail
  else .region none slots vs
/-- No range over a function within. -/
def noRange : VCode → Bool
  | .seq a b | .cond _ a b => noRange a && noRange b
  | .block _ a | .loop _ a => noRange a
  | .rangeFunc .. => false
  | _ => true
def compCode (P : Program) (tr : FuncId → Option Nat) (mu : Bool) : Code → List (List Nat) → VCode × List (List Nat)
  | .skip, l => (.skip, l)
  | .region _ ops draw, l => (compRegion P tr mu ops draw, l)
  | .seq a b, l => let (x, l) := compCode P tr mu a l; let (y, l) := compCode P tr mu b l; (.seq x y, l)
  | .cond c a b, l => let (x, l) := compCode P tr mu a l; let (y, l) := compCode P tr mu b l; (.cond (opd tr c) x y, l)
  | .block id a, l => let (x, l) := compCode P tr mu a l; (.block id x, l)
  | .loop a, l => match l with
    | live :: l => let (x, l) := compCode P tr mu a l; (.loop live x, l)
    | [] => (.fail, [])
  | .rangeFunc f ps a b, l => match l with
    | live :: l => let (x, l) := compCode P tr mu a l; let (y, l) := compCode P tr mu b l; (if noRange x && noRange y then .rangeFunc (opd tr f) live ps.toList x y else .fail, l)
    | [] => (.fail, [])
  | .label _, l => (.skip, l)
  | .scope a, l => compCode P tr mu a l
  | .exit id, l => (.exit id, l)
  | .ret, l => (.ret, l)
  | _, l => (.fail, l)
/-- All that is written lies below N. -/
def dstsOk (N : Nat) : VCode → Bool
  | .region _ _ ops => ops.all fun o => match o.dst with | some d => decide (d < N) | none => true
  | .seq a b | .cond _ a b => dstsOk N a && dstsOk N b
  | .rangeFunc _ _ ps a b => ps.all (fun t => decide (t < N)) && dstsOk N a && dstsOk N b
  | .block _ a | .loop _ a => dstsOk N a
  | _ => true
def compRes (P : Program) : ResultVar → Option VRes
  | .tmp t => some (.t t)
  | .cell a t => do
    let b ← aggT P t
    let n ← sizeT P t
    if b || n == 1 then some (.cell a b n) else none
def compFn (P : Program) (tr : FuncId → Option Nat) (byRef : List Bool) (keep split : Bool) (lives : List (List Nat)) (fn : Func) : Option VFun := do
  let body ← fn.body
  if !dstsOk fn.ntmps (compCode P tr keep body lives).1 then none else
  some { byRef, keep, split, body := (compCode P tr keep body lives).1, res := ← fn.results.toList.mapM (compRes P) }
end Go.Proofs.YtboekhenldifhaaGreat
