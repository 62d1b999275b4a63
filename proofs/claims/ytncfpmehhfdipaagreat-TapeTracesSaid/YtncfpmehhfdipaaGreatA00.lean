/- The machine of this proof: a small deterministic interpreter of a compiled form of Go functions. Immutable data are terms, mutable memory is a short list of blocks. Definitions alone. -/
import GoSem.Core.View
import GoSem.Core.Region
import GoSem.Op.Equal
import Derived.RangeFuncLeaves
import Derived.RangeFuncRecord
import Derived.OrdersIn
import Derived.Below
import Derived.Laws.CopyRow
import Derived.Laws.CopyOwn
import Derived.Laws.StructEq
set_option linter.unusedSimpArgs false
set_option linter.unusedVariables false
set_option linter.unnecessarySimpa false
namespace Go.Proofs.YtncfpmehhfdipaaGreat
inductive D where
 | bool (b:Bool)
 | int (k:IntKind) (n:Int)
 | str (s:ByteArray)
 | nilp | nilf | nilm | nili
 | slice (es:List D)
 | iptr (cells:List D) (off:Nat)
 | agg (cells:List D)
 | tuple (vs:List D)
 | func (f:Nat) (first captured:List D)
 deriving Inhabited
inductive V where
 | poison
 | d (x:D)
 | nils
 | emp
 | non
 | lit (es:List D)
 | ptr (id ver i j:Nat)
 | ms (id ver off len:Nat)
 | asl (id ver i j len:Nat)
 | agg (cells:List V)
 | tuple (vs:List V)
 | func (f:Nat) (first captured:List V)
 | map (id:Nat)
 | yield (id:Nat)
 deriving Inhabited
def D.cells:D->List D
 | .agg cs=>cs
 | x=>[x]
def V.cells:V->List V
 | .agg cs=>cs
 | .d x=>x.cells.map .d
 | x=>[x]
def bY:D->Bool
 | .agg _ | .tuple _=>false
 | _=>true
def aH:V->Bool
 | .d x=>bY x
 | .poison | .agg _ | .tuple _=>false
 | _=>true
def asDs:List V->Option (List D)
 | []=>some []
 | .d x::r=>(asDs r).map (x :: ·)
 | _=>none
def mkAgg (cs:List V):V:=match asDs cs with | some ds => .d (.agg ds) | none => .agg cs
def mkTuple (cs:List V):V:=match asDs cs with | some ds => .d (.tuple ds) | none => .tuple cs
def mkFunc (f:Nat) (a b:List V):V:=match asDs a,asDs b with | some x,some y => .d (.func f x y) | _,_ => .func f a b
inductive Opd where
 | t (n:Nat)
 | c (v:V)
 deriving Inhabited
inductive Cmp where
 | no | int | str | flat (n:Nat) | bool | ptr | slice | map | func
 deriving DecidableEq,Inhabited
inductive VOp where
 | fail
 | mv (x:Opd)
 | pick (c a b:Opd)
 | alloc (slot:Nat) (z:List V)
 | box (slot:Nat) (x:Opd)
 | build (z:List V) (parts:List (Nat×Nat×Opd))
 | bslice (esz:Nat) (z:List V) (n:Nat) (parts:List (Nat×Opd))
 | load (agg:Bool) (n:Nat) (a:Opd)
 | store (n:Nat) (a x:Opd)
 | nilc (x:Opd)
 | bin (op:BinOp) (cmp:Cmp) (x y:Opd)
 | un (op:UnOp) (x:Opd)
 | conv (k:IntKind) (x:Opd)
 | mkslice (slot esz bytes:Nat) (z:List V) (len cap:Opd)
 | slice (esz:Nat) (x:Opd) (lo hi:Option Opd)
 | slarr (n esz:Nat) (x:Opd) (lo hi:Option Opd)
 | faddr (off:Nat) (x:Opd)
 | iaddrS (esz:Nat) (x i:Opd)
 | iaddrA (n esz:Nat) (x i:Opd)
 | index (x i:Opd)
 | indexA (n:Nat) (x i:Opd)
 | lookup (c:Cmp) (z:V) (m k:Opd) (ok:Bool)
 | mapup (c:Cmp) (m k x:Opd)
 | mkmap (slot:Nat)
 | ext (x:Opd) (i:Nat)
 | mkfunc (f:Nat) (first captured:List Opd)
 | call (f:Nat) (args:List Opd)
 | callv (f:Opd) (args:List Opd)
 | len (c:Cmp) (x:Opd)
 | append (slot esz bytes:Nat) (s x:Opd)
 | max (xs:List Opd)
 | min (xs:List Opd)
 | clear (z:List V) (x:Opd)
 | mslice (slot esz:Nat) (z:List V) (n:Nat) (parts:List (Nat×Opd))
 deriving Inhabited
structure VOper where
 dst:Option Nat
 op:VOp
 guard:Option (Nat×Bool)
 deriving Inhabited
inductive VCode where
 | skip
 | region (draw:Option (List (Nat×Nat))) (slots:Nat) (ops:List VOper)
 | seq (a b:VCode)
 | cond (c:Opd) (a b:VCode)
 | block (id:Nat) (body:VCode)
 | loop (live:List Nat) (body:VCode)
 | rangeFunc (f:Opd) (live params:List Nat) (assign body:VCode)
 | exit (id:Nat)
 | ret
 | fail
 deriving Inhabited
inductive VRes where
 | t (n:Nat)
 | cell (t:Nat) (agg:Bool) (n:Nat)
 deriving Inhabited
structure VFun where
 byRef:List Bool
 keep:Bool
 split:Bool
 body:VCode
 res:List VRes
 deriving Inhabited
inductive Jump where
 | none | exit (id:Nat) | ret
 deriving DecidableEq,Inhabited
inductive Blk where
 | rows (ver:Nat) (ro:Bool) (esz:Nat) (els:List (List V))
 | map (es:List (D×V))
 | loop (state:Nat) (pending:Jump) (env:List (Nat×V)) (params:List Nat) (assign body:VCode)
 deriving Inhabited
abbrev Env:=Nat->V
abbrev aa:=List (Option Blk)
def upd (e:Env) (t:Nat) (v:V):Env:=fun x=>bif Nat.beq x t then v else e x
def e0:Env:=fun _ => .poison
def put (e:Env) (dst:Option Nat) (v:V):Env:=match dst with | some t=>upd e t v | none=>e
def ev (e:Env):Opd->V
 | .t n=>e n
 | .c v=>v
def getB (s:aa) (id:Nat):Option Blk:=(s[id]?).join
def setB (s:aa) (id:Nat) (b:Blk):aa:=s.set id (some b)
def em (s:aa) (id:Nat) (b:Blk):Option aa:=if id < s.length/\(getB s id).isNone then some (s.set id (some b)) else none
def ik (s:aa) (id:Nat):Option Nat:=match getB s id with | some (.rows v _ _ _)=>some v | some _=>some 0 | none=>none
def eU (op:BinOp) (k:IntKind) (a b:Int):Option D :=
 match op with
 | .add=>some (.int k (k.wrap (a+b)))
 | .sub=>some (.int k (k.wrap (a - b)))
 | .mul=>some (.int k (k.wrap (a*b)))
 | .quo=>if b=0 then none else some (.int k (k.wrap (a.tdiv b)))
 | .rem=>if b=0 then none else some (.int k (a.tmod b))
 | .and=>some (.int k (k.wrap (BitVec.ofInt k.bits a &&& BitVec.ofInt k.bits b).toNat))
 | .or=>some (.int k (k.wrap (BitVec.ofInt k.bits a ||| BitVec.ofInt k.bits b).toNat))
 | .xor=>some (.int k (k.wrap (BitVec.ofInt k.bits a ^^^ BitVec.ofInt k.bits b).toNat))
 | .andNot=>some (.int k (k.wrap (BitVec.ofInt k.bits a &&& ~~~(BitVec.ofInt k.bits b)).toNat))
 | .eql=>some (.bool (a==b))
 | .neq=>some (.bool (a != b))
 | .lss=>some (.bool (decide (a < b)))
 | .leq=>some (.bool (decide (a<=b)))
 | .gtr=>some (.bool (decide (a > b)))
 | .geq=>some (.bool (decide (a>=b)))
 | _=>none
def eH (op:BinOp) (k:IntKind) (a b:Int):Option D :=
 if b < 0 then none else
 match op with
 | .shl=>some (.int k (k.wrap (a*2 ^ (min b.toNat k.bits))))
 | .shr=>some (.int k (a.fdiv (2 ^ (min b.toNat k.bits))))
 | _=>none
def dX:List D->List D->Option Bool
 | [],[]=>some true
 | .int k a::xs,.int k' b::ys=>if k=k' then (dX xs ys).map fun r=>a==b&&r else none
 | _,_=>none
def eqK (c:Cmp) (x y:D):Option Bool :=
 match c,x,y with
 | .int,.int k a,.int k' b=>if k=k' then some (a==b) else none
 | .str,.str a,.str b=>some (a==b)
 | .flat n,.agg xs,.agg ys=>if xs.length=n then dX xs ys else none
 | _,_,_=>none
def d4:Cmp->V->Option Bool
 | .slice,.nils=>some true
 | .slice,.lit _=>some false
 | .slice,.non=>some false
 | .slice,.ms _ _ _ _=>some false
 | .slice,.asl _ _ _ _ _=>some false
 | .slice,.d (.slice (_::_))=>some false
 | .ptr,.d .nilp=>some true
 | .ptr,.d (.iptr _ _)=>some false
 | .ptr,.ptr _ _ _ _=>some false
 | .map,.d .nilm=>some true
 | .map,.map _=>some false
 | .func,.d .nilf=>some true
 | .func,.d (.func _ _ _)=>some false
 | .func,.func _ _ _=>some false
 | _,_=>none
def vI (c:Cmp) (x y:V):Option Bool :=
 match d4 c x,d4 c y with
 | some true,some b=>some b
 | some b,some true=>some b
 | _,_=>none
def eqV (c:Cmp) (x y:V):Option Bool :=
 match c,x,y with
 | .flat n,.d (.agg xs),.d (.agg ys)=>if xs.length=n then dX xs ys else none
 | .bool,.d (.bool a),.d (.bool b)=>some (a==b)
 | c,x,y=>vI c x y
def bin (op:BinOp) (cmp:Cmp) (x y:V):Option V :=
 match op,x,y with
 | .shl,.d (.int k a),.d (.int _ b)=>(eH .shl k a b).map .d
 | .shr,.d (.int k a),.d (.int _ b)=>(eH .shr k a b).map .d
 | op,.d (.int k a),.d (.int k' b)=>if k=k' then (eU op k a b).map .d else none
 | .eql,x,y=>(eqV cmp x y).map fun b => .d (.bool b)
 | .neq,x,y=>(eqV cmp x y).map fun b => .d (.bool !b)
 | _,_,_=>none
def un (op:UnOp) (x:V):Option V :=
 match op,x with
 | .neg,.d (.int k a)=>(eU .sub k 0 a).map .d
 | .xor,.d (.int k a)=>(eU .xor k (if k.signed then -1 else k.max) a).map .d
 | .not,.d (.bool b)=>some (.d (.bool !b))
 | _,_=>none
def jO (less:Int->Int->Bool):V->List V->Option V
 | x,[]=>some x
 | .d (.int k a),.d (.int k' b)::r=>if k=k' then jO less (.d (.int k (if less b a then b else a))) r else none
 | _,_=>none
def splice (cs:List V) (j:Nat) (xs:List V):List V:=cs.take j++xs++cs.drop (j+xs.length)
def D.ofCells:List D->D
 | [c]=>c
 | cs => .agg cs
def known:V->Bool
 | .poison=>false
 | _=>true
def cR (z:List V):List (Nat×Nat×V)->Option (List V)
 | []=>some z
 | (off,size,v)::r=>if known v/\v.cells.length=size/\off+size<=z.length then cR (splice z off v.cells) r else none
def cH (esz:Nat) (z:List (List V)):List (Nat×V)->Option (List (List V))
 | []=>some z
 | (i,v)::r=>if known v/\v.cells.length=esz/\i < z.length then cH esz (z.set i v.cells) r else none
def norm:V->V
 | .nils | .emp | .non => .d (.slice [])
 | .lit es => .d (.slice es)
 | v=>v
def iM (s:aa) (agg:Bool) (n:Nat) (a:V):Option V :=
 match a with
 | .d (.iptr cs off) =>
   if off+n<=cs.length then (if agg then some (.d (.agg ((cs.drop off).take n))) else (cs[off]?).map .d) else none
 | .ptr id ver i j =>
   match getB s id with
   | some (.rows v _ _ els) =>
     if v=ver then
      match els[i]? with
      | some cs=>if j+n<=cs.length then (if agg then some (mkAgg ((cs.drop j).take n)) else cs[j]?) else none
      | none=>none
     else none
   | _=>none
 | _=>none
def jt (s:aa) (n:Nat) (a x:V):Option aa :=
 match a with
 | .ptr id ver i j =>
   match getB s id with
   | some (.rows v false esz els) =>
     if v=ver/\x.cells.length=n/\x.cells.all aH then
      match els[i]? with
      | some cs=>if j+n<=cs.length then some (setB s id (.rows v false esz (els.set i (splice cs j x.cells)))) else none
      | none=>none
     else none
   | _=>none
 | _=>none
def wide (n:Nat) (es:List D):Bool:=es.all fun e=>e.cells.length==n
def cM (s:aa) (esz:Nat) (x:V):Option (List (List V)) :=
 match x with
 | .nils | .emp | .non=>some []
 | .d (.slice es)=>if wide esz es then some (es.map fun e=>e.cells.map .d) else none
 | .lit es=>if wide esz es then some (es.map fun e=>e.cells.map .d) else none
 | .ms id ver off len =>
   match getB s id with
   | some (.rows v _ n els)=>if v=ver/\n=esz/\off+len<=els.length then some ((els.drop off).take len) else none
   | _=>none
 | _=>none
def iN (s:aa):V->Option Nat
 | .nils | .emp | .non=>some 0
 | .d (.slice es)=>some es.length
 | .lit es=>some es.length
 | .d (.str b)=>some b.size
 | .ms id ver _ len=>if ik s id=some ver then some len else none
 | .asl id ver _ _ len=>if ik s id=some ver then some len else none
 | .d .nilm=>some 0
 | .map id=>match getB s id with | some (.map es)=>some es.length | _=>none
 | _=>none
def me (n:Int):V := .d (.int .i64 n)
def gq (v:Option V) (dflt:Nat):Option Nat :=
 match v with
 | none=>some dflt
 | some (.d (.int _ n))=>if 0<=n then some n.toNat else none
 | _=>none
def dq (s:aa) (esz:Nat) (x:V) (lo hi:Option V):Option V :=
 match iN s x with
 | none=>none
 | some len =>
   match gq lo 0,gq hi len with
   | some l,some h =>
     if l<=h/\h<=len then
      match x with
      | .d (.str b)=>some (.d (.str (b.extract l h)))
      | .nils=>some .nils
      | .emp=>some .emp
      | .non=>some .non
      | .d (.slice es)=>if wide esz es then some (.d (.slice ((es.drop l).take (h - l)))) else none
      | .lit es=>if wide esz es then some (.d (.slice ((es.drop l).take (h - l)))) else none
      | .ms id ver off _ =>
        if h=l then some (.d (.slice []))
        else (match getB s id with | some (.rows _ _ e _)=>if e=esz then some (.ms id ver (off+l) (h - l)) else none | _=>none)
      | _=>none
     else none
   | _,_=>none
def iu (s:aa) (n esz:Nat) (x:V) (lo hi:Option V):Option V :=
 match gq lo 0,gq hi n with
 | some l,some h =>
   if l<=h/\h<=n/\esz=1 then
    match x with
    | .d (.iptr cs off)=>if off+n<=cs.length/\((cs.drop (off+l)).take (h - l)).all bY then some (.d (.slice ((cs.drop (off+l)).take (h - l)))) else none
    | .ptr id ver i j =>
      if h=l then some (.d (.slice []))
      else match getB s id with
       | some (.rows v _ _ els)=>match els[i]? with | some cs=>if v=ver/\j+n<=cs.length then some (.asl id ver i (j+l) (h - l)) else none | none=>none
       | _=>none
    | _=>none
   else none
 | _,_=>none
def idx (i:V):Option Nat:=match i with | .d (.int _ n)=>if 0<=n then some n.toNat else none | _=>none
def dO (s:aa) (esz:Nat) (x i:V):Option V :=
 match idx i with
 | none=>none
 | some k =>
   match x with
   | .d (.slice es)=>match es[k]? with | some e=>if e.cells.length=esz then some (.d (.iptr e.cells 0)) else none | none=>none
   | .lit es=>match es[k]? with | some e=>if e.cells.length=esz then some (.d (.iptr e.cells 0)) else none | none=>none
   | .ms id ver off len =>
     match getB s id with
     | some (.rows v _ n els)=>if v=ver/\n=esz/\k < len/\off+len<=els.length then some (.ptr id ver (off+k) 0) else none
     | _=>none
   | .asl id ver a b len =>
     if ik s id=some ver/\k < len/\esz=1 then some (.ptr id ver a (b+k)) else none
   | _=>none
def mQ (n esz:Nat) (x i:V):Option V :=
 match idx i with
 | none=>none
 | some k =>
   if k < n then
    match x with
    | .d (.iptr cs off)=>some (.d (.iptr cs (off+k*esz)))
    | .ptr id ver a b=>some (.ptr id ver a (b+k*esz))
    | _=>none
   else none
def nX (off:Nat) (x:V):Option V :=
 match x with
 | .d (.iptr cs o)=>some (.d (.iptr cs (o+off)))
 | .ptr id ver a b=>some (.ptr id ver a (b+off))
 | _=>none
def v9 (x:V):Option V :=
 match x with
 | .d (.iptr _ _) | .ptr _ _ _ _ | .d (.func _ _ _) | .func _ _ _ | .yield _=>some x
 | _=>none
def q9 (x i:V):Option V :=
 match idx i with
 | none=>none
 | some k =>
   match x with
   | .d (.str b)=>(b[k]?).map fun c => .d (.int .u8 c.toNat)
   | _=>none
def mL (n:Nat) (x i:V):Option V :=
 match idx i with
 | none=>none
 | some k =>
   if k < n then
    match x with
    | .d (.agg cs)=>(cs[k]?).map .d
    | _=>none
   else none
def er (c:Cmp) (k:D):List (D×V)->Nat->Option (Option (Nat×V))
 | [],_=>some none
 | (x,v)::r,i=>match eqK c k x with
   | some true=>some (some (i,v))
   | some false=>er c k r (i+1)
   | none=>none
def jU (c:Cmp) (k:D):Bool:=eqK c k k==some true
def e9 (s:aa) (c:Cmp) (z:V) (m k:V) (ok:Bool):Option V :=
 match k with
 | .d k =>
   if jU c k then
    match (match m with | .d .nilm=>some [] | .map id=>(match getB s id with | some (.map es)=>some es | _=>none) | _=>none) with
    | some es=>match er c k es 0 with
      | some (some (_,v))=>some (if ok then mkTuple [v,.d (.bool true)] else v)
      | some none=>some (if ok then mkTuple [z,.d (.bool false)] else z)
      | none=>none
    | none=>none
   else none
 | _=>none
def jP (s:aa) (c:Cmp) (m k x:V):Option aa :=
 match m,k with
 | .map id,.d k =>
   if jU c k then
    match getB s id with
    | some (.map es)=>match er c k es 0 with
      | some (some (i,_))=>some (setB s id (.map (es.set i (k,x))))
      | some none=>some (setB s id (.map (es++[(k,x)])))
      | none=>none
    | _=>none
   else none
 | _,_=>none
def au (n bytes:Nat):Bool:=decide ((2*n+768)*bytes<=2 ^ 47)&&decide (n<=2 ^ 46)
def cT (s:aa) (id esz bytes:Nat) (x y:V):Option (V×aa) :=
 match cM s esz y with
 | none=>none
 | some ys =>
   match x with
   | .nils=>if ys=[] then some (.nils,s) else if ys.all (fun r=>r.length==esz&&r.all aH)&&au ys.length bytes then (em s id (.rows 0 false esz ys)).map fun s=>(.ms id 0 0 ys.length,s) else none
   | .emp=>if ys=[] then some (.emp,s) else if ys.all (fun r=>r.length==esz&&r.all aH)&&au ys.length bytes then (em s id (.rows 0 false esz ys)).map fun s=>(.ms id 0 0 ys.length,s) else none
   | .lit es =>
     if ys=[] then some (.lit es,s)
     else
      let all:=(es.map fun e=>e.cells.map V.d)++ys
      if all.all (fun r=>r.length==esz&&r.all aH)&&au all.length bytes then (em s id (.rows 0 false esz all)).map fun s=>(.ms id 0 0 all.length,s) else none
   | .ms b ver off len =>
     match getB s b with
     | some (.rows v false n els) =>
       if v=ver/\n=esz/\off+len<=els.length then
        if ys=[] then some (.ms b ver off len,s)
        else if off=0/\ys.all (fun r=>r.length==esz&&r.all aH)/\au (len+ys.length) bytes then
         some (.ms b (ver+1) 0 (len+ys.length),setB s b (.rows (ver+1) false esz (els.take len++ys)))
        else none
       else none
     | _=>none
   | _=>none
def lZ (s:aa) (z:List V) (x:V):Option aa :=
 match x with
 | .nils | .emp=>some s
 | .d (.slice [])=>some s
 | .ms id ver off len =>
   match getB s id with
   | some (.rows v false n els) =>
     if v=ver/\n=z.length/\off+len<=els.length/\z.all aH then
      some (setB s id (.rows v false n (els.take off++List.replicate len z++els.drop (off+len))))
     else none
   | _=>none
 | _=>none
section
variable (f:V->Option (D×List Nat))
def aC:List V->Option (List D×List Nat)
 | []=>some ([],[])
 | x::xs=>match f x,aC xs with | some (d,a),some (ds,b)=>some (d::ds,a++b) | _,_=>none
def da:List (List V)->Option (List D×List Nat)
 | []=>some ([],[])
 | r::rs=>match aC f r,da rs with | some (c,a),some (ds,b)=>some (.ofCells c::ds,a++b) | _,_=>none
end
def toD (s:aa):Nat->V->Option (D×List Nat)
 | 0,_=>none
 | n+1,v =>
   match v with
   | .d x=>some (x,[])
   | .nils | .emp | .non=>some (.slice [],[])
   | .lit es=>some (.slice es,[])
   | .ms id ver off len =>
     match getB s id with
     | some (.rows v _ esz els)=>if v=ver/\0 < esz/\off+len<=els.length then (da (toD s n) ((els.drop off).take len)).map fun (es,a)=>(.slice es,id::a) else none
     | _=>none
   | .asl id ver i j len =>
     match getB s id with
     | some (.rows v _ _ els)=>match els[i]? with
       | some cs=>if v=ver/\j+len<=cs.length then (aC (toD s n) ((cs.drop j).take len)).map fun (es,a)=>(.slice es,id::a) else none
       | none=>none
     | _=>none
   | .ptr id ver i j =>
     match getB s id with
     | some (.rows v _ _ els)=>match els[i]? with
       | some cs=>if v=ver then (aC (toD s n) cs).map fun (es,a)=>(.iptr es j,id::a) else none
       | none=>none
     | _=>none
   | .agg cs=>(aC (toD s n) cs).map fun (es,a)=>(.agg es,a)
   | .tuple cs=>(aC (toD s n) cs).map fun (es,a)=>(.tuple es,a)
   | .func f x y=>match aC (toD s n) x,aC (toD s n) y with | some (a,p),some (b,q)=>some (.func f a b,p++q) | _,_=>none
   | _=>none
def bB:Nat:=30
def sV (s:aa) (n:Nat) (rs:List (List V)):Option (List D×List Nat):=da (toD s n) rs
def aq (s:aa) (ids:List Nat):aa :=
 ids.foldl (fun s id=>match getB s id with | some (.rows v _ e els)=>setB s id (.rows v true e els) | _=>s) s
def gl:D->Bool
 | .bool _ | .int _ _ | .str _ | .nilp | .nilf | .nilm | .nili=>true
 | .tuple vs=>vs.all fun | .bool _ | .int _ _ | .str _=>true | _=>false
 | _=>false
mutual
def refs:V->List Nat
 | .ptr id _ _ _ | .ms id _ _ _ | .asl id _ _ _ _ | .map id | .yield id=>[id]
 | .agg cs | .tuple cs=>refsL cs
 | .func _ a b=>refsL a++refsL b
 | _=>[]
def refsL:List V->List Nat
 | []=>[]
 | x::xs=>refs x++refsL xs
end
def ei:List (Nat×V)->List Nat
 | []=>[]
 | (_,x)::xs=>refs x++ei xs
def s7:List (D×V)->List Nat
 | []=>[]
 | (_,x)::xs=>refs x++s7 xs
def eO:List (List V)->List Nat
 | []=>[]
 | r::rs=>refsL r++eO rs
def du:Blk->List Nat
 | .rows _ _ _ els=>eO els
 | .map es=>s7 es
 | .loop _ _ env _ _ _=>ei env
def aM (s:aa):Nat->List Nat->List Nat->List Nat
 | 0,_,seen=>seen
 | _,[],seen=>seen
 | n+1,i::todo,seen =>
   if seen.contains i then aM s n todo seen
   else match getB s i with
    | some b=>aM s n (todo++du b) (seen++[i])
    | none=>aM s n todo seen
def pos (ids:List Nat) (i:Nat):Option Nat:=ids.findIdx? (· == i)
mutual
def ren (m:Nat->Option Nat):V->V
 | .ptr id v i j=>match m id with | some k => .ptr k v i j | none => .poison
 | .ms id v o l=>match m id with | some k => .ms k v o l | none => .poison
 | .asl id v i j l=>match m id with | some k => .asl k v i j l | none => .poison
 | .map id=>match m id with | some k => .map k | none => .poison
 | .yield id=>match m id with | some k => .yield k | none => .poison
 | .agg cs => .agg (renL m cs)
 | .tuple cs => .tuple (renL m cs)
 | .func f a b => .func f (renL m a) (renL m b)
 | v=>v
def renL (m:Nat->Option Nat):List V->List V
 | []=>[]
 | x::xs=>ren m x::renL m xs
end
def uV (m:Nat->Option Nat) (l:List (Nat×V)):List (Nat×V):=l.map fun (t,x)=>(t,ren m x)
def renB (m:Nat->Option Nat):Blk->Blk
 | .rows v ro e els => .rows v ro e (els.map (renL m))
 | .map es => .map (es.map fun (k,x)=>(k,ren m x))
 | .loop st p env ps a b => .loop st p (uV m env) ps a b
def pack (s:aa) (ids:List Nat) (m:Nat->Option Nat):aa:=ids.map fun i=>(getB s i).map (renB m)
def aA (_:aa):Nat:=100000
def gA (s:aa):List Nat->List Nat
 | []=>[]
 | i::r=>(match getB s i with | some b=>du b | none=>[])++gA s r
def ci (s:aa) (k:Nat) (roots:List Nat):List Nat:=aM s (aA s) (roots++gA s (List.range k)) (List.range k)
def dQ (l:List (Nat×V)):Env:=l.foldr (fun (t,v) e=>upd e t v) e0
def lives (e:Env) (live:List Nat):List (Nat×V):=live.map fun t=>(t,e t)
inductive Tgt where
 | fn (f:Nat)
 | round (id:Nat)
abbrev CallSem:=Tgt->List V->aa->Option (V×aa)
inductive Res where
 | val (v:V)
 | none
def ai (s:aa):List Bool->List V->Option (List V×List Nat)
 | _,[]=>some ([],[])
 | true::fs,x::xs=>(ai s fs xs).map fun (ys,a)=>(x::ys,a)
 | fs,x::xs=>match toD s bB x,ai s (fs.drop 1) xs with
   | some (d,a),some (ys,b)=>some (.d d::ys,a++b)
   | _,_=>none
def gT (s:aa):Bool:=s.all (·.isSome)
def ec (m:Nat->Option Nat):List Nat->aa->aa->aa
 | i::ids,b::bs,s=>ec m ids bs (s.set i (b.map (renB m)))
 | _,_,s=>s
def bg (ids:List Nat) (bs:aa) (r:V):Bool:=ids.isEmpty&&bs.isEmpty&&(match r with | .d x=>gl x | _=>false)
def aN:Tgt->List Nat
 | .round id=>[id]
 | .fn _=>[]
def iq (m:Nat->Option Nat):Tgt->Option Tgt
 | .round id=>(m id).map .round
 | .fn f=>some (.fn f)
def am (ids:List Nat) (bs:aa) (n0:Nat):Nat->Option Nat:=fun i=>if i < ids.length then ids[i]? else if i < bs.length then some (n0+(i - ids.length)) else none
def aj (ids:List Nat) (bs s:aa) (m:Nat->Option Nat):aa:=ec m ids bs s++(bs.drop ids.length).map fun b=>b.map (renB m)
def dl (call:CallSem) (t:Tgt) (as:List V) (fz ids:List Nat) (s:aa):Option (V×aa) :=
 if ids.all (fun i => !fz.contains i) then
  match iq (pos ids) t with
  | none=>none
  | some t' =>
    match call t' (renL (pos ids) as) (pack s ids (pos ids)) with
    | none=>none
    | some (r,bs) =>
      if ids.length<=bs.length/\gT (bs.take ids.length) then
       some (ren (am ids bs s.length) r,aj ids bs (if bg ids bs r then s else aq s fz) (am ids bs s.length))
      else none
 else none
def aV (call:CallSem) (t:Tgt) (flags:List Bool) (args:List V) (s:aa):Option (V×aa) :=
 match ai s flags args with
 | none=>none
 | some (as,fz)=>dl call t as fz (aM s (aA s) (aN t++refsL as) []) s
def target (v:V):Option (Tgt×List V×List V) :=
 match v with
 | .d (.func f a b)=>some (.fn f,a.map .d,b.map .d)
 | .func f a b=>some (.fn f,a,b)
 | .yield id=>some (.round id,[],[])
 | _=>none
def pi:Cmp->V->Bool
 | .str,.d (.str _)=>true
 | .map,.d .nilm | .map,.map _=>true
 | .slice,.nils | .slice,.emp | .slice,.non | .slice,.d (.slice _) | .slice,.lit _ | .slice,.ms _ _ _ _ | .slice,.asl _ _ _ _ _=>true
 | _,_=>false
def lK:V->Bool
 | .d (.str _)=>true
 | _=>false
def aL (n:Nat) (z:List V):List (List V):=List.replicate n z
def ae (call:CallSem) (flags:Nat->List Bool) (base:Nat) (op:VOp) (e:Env) (s:aa):Option (Res×aa) :=
 let v (x:Option V):Option (Res×aa):=x.map fun x=>(.val x,s)
 let u (x:Option aa):Option (Res×aa):=x.map fun s=>(.none,s)
 match op with
 | .fail=>none
 | .mv x=>some (.val (ev e x),s)
 | .pick c a b=>match ev e c with | .d (.bool t)=>some (.val (if t then ev e a else ev e b),s) | _=>none
 | .alloc slot z=>if z.all aH then (em s (base+slot) (.rows 0 false z.length [z])).map fun s=>(.val (.ptr (base+slot) 0 0 0),s) else none
 | .box slot x=>let z:=(ev e x).cells;if z.all aH then (em s (base+slot) (.rows 0 false z.length [z])).map fun s=>(.val (.ptr (base+slot) 0 0 0),s) else none
 | .build z parts=>v ((cR z (parts.map fun (o,n,x)=>(o,n,ev e x))).map mkAgg)
 | .bslice esz z n parts=>match cH esz (aL n z) (parts.map fun (i,x)=>(i,ev e x)) with
   | some rs=>if rs.all (·.all aH) then (sV s bB rs).map fun (es,fz)=>(.val (.lit es),aq s fz) else none
   | none=>none
 | .load agg n a=>v (iM s agg n (ev e a))
 | .store n a x=>u (jt s n (ev e a) (ev e x))
 | .nilc x=>v (v9 (ev e x))
 | .bin op cmp x y=>v (bin op cmp (ev e x) (ev e y))
 | .un op x=>v (un op (ev e x))
 | .conv k x=>match ev e x with | .d (.int _ n)=>some (.val (.d (.int k (k.wrap n))),s) | _=>none
 | .mkslice slot esz bytes z len cap =>
   match idx (ev e len),idx (ev e cap) with
   | some l,some c =>
     if l<=c/\au c bytes/\z.all aH/\z.length=esz then
      (em s (base+slot) (.rows 0 false esz (aL l z))).map fun s=>(.val (.ms (base+slot) 0 0 l),s)
     else none
   | _,_=>none
 | .slice esz x lo hi=>if lK (ev e x)==(esz==0) then v (dq s esz (ev e x) (lo.map (ev e)) (hi.map (ev e))) else none
 | .slarr n esz x lo hi=>v (iu s n esz (ev e x) (lo.map (ev e)) (hi.map (ev e)))
 | .faddr off x=>v (nX off (ev e x))
 | .iaddrS esz x i=>v (dO s esz (ev e x) (ev e i))
 | .iaddrA n esz x i=>v (mQ n esz (ev e x) (ev e i))
 | .index x i=>v (q9 (ev e x) (ev e i))
 | .indexA n x i=>v (mL n (ev e x) (ev e i))
 | .lookup c z m k ok=>v (e9 s c z (ev e m) (ev e k) ok)
 | .mapup c m k x=>u (jP s c (ev e m) (ev e k) (ev e x))
 | .mkmap slot=>(em s (base+slot) (.map [])).map fun s=>(.val (.map (base+slot)),s)
 | .ext x i=>match ev e x with | .d (.tuple vs)=>v ((vs[i]?).map .d) | .tuple vs=>v (vs[i]?) | _=>none
 | .mkfunc f a b=>some (.val (mkFunc f (a.map (ev e)) (b.map (ev e))),s)
 | .call f args=>(aV call (.fn f) (flags f) (args.map (ev e)) s).map fun (r,s)=>(.val r,s)
 | .callv f args =>
   match target (ev e f) with
   | some (t,a,b)=>(aV call t (match t with | .fn f=>flags f | .round _=>[]) (a++args.map (ev e)++b) s).map fun (r,s)=>(.val r,s)
   | none=>none
 | .len c x=>if pi c (ev e x) then v ((iN s (ev e x)).map fun n=>me n) else none
 | .append slot esz bytes x y=>(cT s (base+slot) esz bytes (ev e x) (ev e y)).map fun (r,s)=>(.val r,s)
 | .max xs=>match xs.map (ev e) with | x::r=>v (jO (fun b a=>decide (b > a)) x r) | []=>none
 | .min xs=>match xs.map (ev e) with | x::r=>v (jO (fun b a=>decide (b < a)) x r) | []=>none
 | .clear z x=>(lZ s z (ev e x)).map fun s=>(.val (.d (.tuple [])),s)
 | .mslice slot esz z n parts=>match cH esz (aL n z) (parts.map fun (i,x)=>(i,ev e x)) with
   | some rs=>if rs.all (·.all aH) then (em s (base+slot) (.rows 0 false esz rs)).map fun s=>(.val (.ms (base+slot) 0 0 n),s) else none
   | none=>none
def bx (g:Option (Nat×Bool)) (e:Env):Option Bool :=
 match g with
 | none=>some true
 | some (t,want)=>match e t with
   | .d (.bool b)=>some (b==want)
   | .d (.tuple [])=>some false
   | _=>none
def cA:V := .d (.tuple [])
def az (call:CallSem) (flags:Nat->List Bool) (base:Nat) (o:VOper) (e:Env) (s:aa):Option (Env×aa) :=
 match bx o.guard e with
 | none=>none
 | some false=>some (put e o.dst cA,s)
 | some true=>match ae call flags base o.op e s with
   | some (.val x,s')=>some (put e o.dst x,s')
   | some (.none,s')=>some (put e o.dst cA,s')
   | none=>none
def co (call:CallSem) (flags:Nat->List Bool) (base:Nat):List VOper->Env->aa->Option (Env×aa)
 | [],e,s=>some (e,s)
 | o::os,e,s=>match az call flags base o e s with
   | some (e',s')=>co call flags base os e' s'
   | none=>none
mutual
def beqD:D->D->Bool
 | .bool a,.bool b=>a==b
 | .int k a,.int k' b=>k==k'&&a==b
 | .str a,.str b=>a==b
 | .nilp,.nilp | .nilf,.nilf | .nilm,.nilm | .nili,.nili=>true
 | .slice a,.slice b=>beqDs a b
 | .iptr a i,.iptr b j=>beqDs a b&&i==j
 | .agg a,.agg b=>beqDs a b
 | .tuple a,.tuple b=>beqDs a b
 | .func f a b,.func g c d=>f==g&&beqDs a c&&beqDs b d
 | _,_=>false
def beqDs:List D->List D->Bool
 | [],[]=>true
 | x::xs,y::ys=>beqD x y&&beqDs xs ys
 | _,_=>false
end
mutual
def beqV:V->V->Bool
 | .poison,.poison=>true
 | .d a,.d b=>beqD a b
 | .nils,.nils | .emp,.emp | .non,.non=>true
 | .lit a,.lit b=>beqDs a b
 | .ptr a b c d,.ptr a' b' c' d'=>Nat.beq a a'&&Nat.beq b b'&&Nat.beq c c'&&Nat.beq d d'
 | .ms a b c d,.ms a' b' c' d'=>Nat.beq a a'&&Nat.beq b b'&&Nat.beq c c'&&Nat.beq d d'
 | .asl a b c d e,.asl a' b' c' d' e'=>Nat.beq a a'&&Nat.beq b b'&&Nat.beq c c'&&Nat.beq d d'&&Nat.beq e e'
 | .agg a,.agg b=>beqVs a b
 | .tuple a,.tuple b=>beqVs a b
 | .func f a b,.func g c d=>Nat.beq f g&&beqVs a c&&beqVs b d
 | .map a,.map b=>Nat.beq a b
 | _,_=>false
def beqVs:List V->List V->Bool
 | [],[]=>true
 | x::xs,y::ys=>beqV x y&&beqVs xs ys
 | _,_=>false
end
def i6:List (List V)->List (List V)->Bool
 | [],[]=>true
 | x::xs,y::ys=>beqVs x y&&i6 xs ys
 | _,_=>false
def aa4:List (D×V)->List (D×V)->Bool
 | [],[]=>true
 | x::xs,y::ys=>beqD x.1 y.1&&beqV x.2 y.2&&aa4 xs ys
 | _,_=>false
def aaG:Option Blk->Option Blk->Bool
 | none,none=>true
 | some (.rows v ro e els),some (.rows v' ro' e' els')=>Nat.beq v v'&&(ro==ro')&&Nat.beq e e'&&i6 els els'
 | some (.map a),some (.map b)=>aa4 a b
 | _,_=>false
def Hh:aa->aa->Bool
 | [],[]=>true
 | x::xs,y::ys=>aaG x y&&Hh xs ys
 | _,_=>false
structure Foot where
 rd:List Nat
 wr:List Nat
 len:Bool
 deriving Inhabited
def bL (v:V):List Nat:=match v with | .ptr id _ _ _ | .ms id _ _ _ | .asl id _ _ _ _ | .map id=>[id] | _=>[]
def bp (s:aa):Nat->List Nat->List Nat->List Nat
 | 0,_,_=>[]
 | _,[],_=>[]
 | n+1,i::todo,seen =>
   if seen.contains i then bp s n todo seen
   else match getB s i with
    | some b=>i::bp s n (todo++du b) (seen++[i])
    | none=>i::bp s n todo seen
def ef (s s':aa) (ids:List Nat):List Nat:=ids.filter fun i => !(Nat.blt i s.length&&Nat.blt i s'.length&&aaG (getB s i) (getB s' i))
def aB (fine:Bool) (t:Tgt) (flags:List Bool) (args:List V) (s s':aa):Foot :=
 match ai s flags args with
 | some (as,fz) =>
   let ids:=fz++bp s (aA s) (aN t++refsL as) []
   ⟨ids,(bif fine then ef s s' ids else ids)++List.range' s.length (s'.length - s.length),s'.length != s.length⟩
 | none=>⟨[],[],false⟩
def aI (fine:Bool) (flags:Nat->List Bool) (base:Nat) (op:VOp) (e:Env) (s s':aa):Foot :=
 let r (x:Opd):Foot:=⟨bL (ev e x),[],false⟩
 let w (x:Opd):Foot:=⟨bL (ev e x),bL (ev e x),false⟩
 match op with
 | .load _ _ a=>r a
 | .store _ a _=>w a
 | .slice _ x _ _=>r x
 | .slarr _ _ x _ _=>r x
 | .iaddrS _ x _=>r x
 | .len _ x=>r x
 | .lookup _ _ m _ _=>r m
 | .mapup _ m _ _=>w m
 | .clear _ x=>w x
 | .bslice esz z n parts=>match cH esz (aL n z) (parts.map fun (i,x)=>(i,ev e x)) with
   | some rs=>match sV s bB rs with
     | some (_,fz)=>⟨fz,fz,false⟩
     | none=>⟨[],[],false⟩
   | none=>⟨[],[],false⟩
 | .alloc slot _ | .box slot _ | .mkslice slot _ _ _ _ _ | .mkmap slot | .mslice slot _ _ _ _=>⟨[base+slot],[base+slot],false⟩
 | .append slot _ _ x y=>⟨(base+slot)::(bL (ev e x)++bL (ev e y)),(base+slot)::bL (ev e x),false⟩
 | .call f args=>aB fine (.fn f) (flags f) (args.map (ev e)) s s'
 | .callv f args =>
   match target (ev e f) with
   | some (t,a,b)=>aB fine t (match t with | .fn f=>flags f | .round _=>[]) (a++args.map (ev e)++b) s s'
   | none=>⟨[],[],false⟩
 | _=>⟨[],[],false⟩
def footOper (fine:Bool) (flags:Nat->List Bool) (base:Nat) (o:VOper) (e:Env) (s s':aa):Foot :=
 match bx o.guard e with
 | some true=>aI fine flags base o.op e s s'
 | _=>⟨[],[],false⟩
def bc (fine:Bool) (call:CallSem) (flags:Nat->List Bool) (base:Nat):List VOper->Env->aa->Option (Env×aa×List Foot)
 | [],e,s=>some (e,s,[])
 | o::os,e,s=>match az call flags base o e s with
   | some (e',s')=>(bc fine call flags base os e' s').map fun (e'',s'',fs)=>(e'',s'',footOper fine flags base o e s s'::fs)
   | none=>none
def rY (a b:List Nat):Bool:=a.all fun x => !b.contains x
def lN (a b:Foot):Bool := !(a.len&&b.len)&&rY a.wr b.rd&&rY a.wr b.wr&&rY a.rd b.wr
def lE (feet:List Foot):List (Nat×Nat)->Bool
 | []=>true
 | (i,j)::r=>(match feet[i]?,feet[j]? with | some a,some b=>lN a b | _,_=>false)&&lE feet r
inductive Out where
 | normal | exit (id:Nat) | ret
 deriving DecidableEq,Inhabited
def bZ (call:CallSem) (flags:Nat->List Bool) (draw:Option (List (Nat×Nat))) (slots:Nat) (ops:List VOper) (e:Env) (s:aa):Option (Env×aa) :=
 let s1:=s++List.replicate slots none
 match draw with
 | none=>co call flags s.length ops e s1
 | some pairs=>match bc false call flags s.length ops e s1 with
   | some (e',s',feet)=>if lE feet pairs then some (e',s') else
     match bc true call flags s.length ops e s1 with
     | some (e',s',feet)=>if lE feet pairs then some (e',s') else none
     | none=>none
   | none=>none
def sweep (k:Nat) (live:List Nat) (e:Env) (s:aa):Env×aa :=
 let l:=lives e live
 let ids:=ci s k (ei l)
 (dQ (uV (pos ids) l),pack s ids (pos ids))
def pQ (step:Env->aa->Option (Out×Env×aa)):Nat->Env->aa->Option (Out×Env×aa)
 | 0,_,_=>none
 | n+1,e,s=>match step e s with
   | some (.normal,e',s')=>pQ step n e' s'
   | r=>r
def dL (call:CallSem) (flags:Nat->List Bool) (f:V) (live params:List Nat) (assign body:VCode) (e:Env) (s:aa):Option (Out×Env×aa) :=
 let id:=s.length
 let s1:=s++[some (.loop 0 .none (lives e live) params assign body)]
 match target f with
 | some (.fn g,a,b) =>
   match aV call (.fn g) (flags g) (a++[.yield id]++b) s1 with
   | some (_,s2)=>match getB s2 id with
     | some (.loop st j env' ps' a' b') =>
       if st=1 then none
       else
        let s3:=setB s2 id (.loop 3 j env' ps' a' b')
        match j with
        | .none=>some (.normal,e,s3)
        | .exit x=>some (.exit x,e,s3)
        | .ret=>some (.ret,e,s3)
     | _=>none
   | none=>none
 | _=>none
def ak (call:CallSem) (flags:Nat->List Bool) (k:Nat) (fuel:Nat):VCode->Env->aa->Option (Out×Env×aa)
 | .skip,e,s=>some (.normal,e,s)
 | .region draw slots ops,e,s=>(bZ call flags draw slots ops e s).map fun (e',s')=>(.normal,e',s')
 | .seq a b,e,s=>match ak call flags k fuel a e s with
   | some (.normal,e',s')=>ak call flags k fuel b e' s'
   | r=>r
 | .cond c a b,e,s=>match ev e c with
   | .d (.bool true)=>ak call flags k fuel a e s
   | .d (.bool false)=>ak call flags k fuel b e s
   | _=>none
 | .block id body,e,s=>match ak call flags k fuel body e s with
   | some (.exit i,e',s')=>if i=id then some (.normal,e',s') else some (.exit i,e',s')
   | r=>r
 | .loop live body,e,s=>pQ (fun e s=>let (e1,s1):=sweep k live e s;ak call flags k fuel body e1 s1) fuel e s
 | .rangeFunc f live params assign body,e,s=>dL call flags (ev e f) live params assign body e s
 | .exit id,e,s=>some (.exit id,e,s)
 | .ret,e,s=>some (.ret,e,s)
 | .fail,_,_=>none
def oZ (e:Env) (s:aa):VRes->Option V
 | .t n=>some (e n)
 | .cell t agg n=>iM s agg n (e t)
def results (e:Env) (s:aa):List VRes->Option (List V)
 | []=>some []
 | r::rs=>match oZ e s r,results e s rs with | some x,some xs=>some (x::xs) | _,_=>none
def dZ (xs:List V):V:=match xs with | [x]=>x | xs=>mkTuple xs
def eo (keep:Bool) (k:Nat) (r:V) (s:aa):Option (V×aa) :=
 if keep then
  let ids:=ci s k (refs r)
  some (ren (pos ids) r,pack s ids (pos ids))
 else
  match toD s bB r with
  | some (d,fz) =>
    let ids:=ci (aq s fz) k []
    some (.d d,pack (aq s fz) ids (pos ids))
  | none=>none
def cE:Nat->List V->Env
 | _,[]=>e0
 | i,x::xs=>upd (cE (i+1) xs) i x
abbrev bh:=Nat->Option VFun
def al (p:bh) (f:Nat):List Bool:=match p f with | some fn=>fn.byRef | none=>[]
def dt (p:bh) (call:CallSem) (fuel:Nat) (fn:VFun) (args:List V) (bs:aa):Option (V×aa) :=
 match ak call (al p) bs.length fuel fn.body (cE 0 args) bs with
 | some (.exit _,_,_)=>none
 | some (_,e,s)=>match results e s fn.res with
   | some rs=>eo fn.keep bs.length (dZ rs) s
   | none=>none
 | none=>none
def cZ (p:bh) (call:CallSem) (fuel:Nat) (id:Nat) (args:List V) (bs:aa):Option (V×aa) :=
 match getB bs id with
 | some (.loop 0 _ env params assign body) =>
   if args.length=params.length then
    let e:=(params.zip args).foldl (fun e (t,a)=>upd e t a) (dQ env)
    match ak call (al p) bs.length fuel assign e bs with
    | some (.normal,e1,s1) =>
      match getB s1 id with
      | some (.loop 0 j env' ps' a' b') =>
        match ak call (al p) bs.length fuel body e1 (setB s1 id (.loop 1 j env' ps' a' b')) with
        | some (out,_,s2) =>
          match getB s2 id with
          | some (.loop _ _ env' ps' a' b') =>
            let (st,j,r):=match out with | .normal=>(0,Jump.none,true) | .exit i=>(2,Jump.exit i,false) | .ret=>(2,Jump.ret,false)
            eo true bs.length (.d (.bool r)) (setB s2 id (.loop st j env' ps' a' b'))
          | _=>none
        | none=>none
      | _=>none
    | _=>none
   else none
 | _=>none
def bare:V->Bool
 | .nils | .emp | .lit []=>true
 | _=>false
def bV (p:bh):Nat->CallSem
 | 0=>fun _ _ _=>none
 | n+1=>fun t args bs =>
   match t with
   | .fn f=>match p f with
     | none=>none
     | some fn =>
       if fn.split then
        match args,bs with
        | .d (.slice [])::rest,[] =>
          match dt p (bV p n) n fn (.nils::rest) [],dt p (bV p n) n fn (.non::rest) [] with
          | some (x,[]),some (y,[])=>if bare x&&bare y then some (.emp,[]) else match norm x,norm y with | .d a,.d b=>if beqD a b then some (.d a,[]) else none | _,_=>none
          | _,_=>none
        | _,_=>dt p (bV p n) n fn args bs
       else dt p (bV p n) n fn args bs
   | .round id=>cZ p (bV p n) n id args bs
end Go.Proofs.YtncfpmehhfdipaaGreat
namespace Go.Proofs.YtncfpmehhfdipaaGreat
def vp (tr:FuncId->Option Nat):Value->V
 | .bool b => .d (.bool b)
 | .int k n => .d (.int k n)
 | .string s => .d (.str s)
 | .pointer none => .d .nilp
 | .slice none 0 0 => .nils
 | .nilFunc => .d .nilf
 | .map none => .d .nilm
 | .nilIface => .d .nili
 | .func (.func f) first captured=>if first.isEmpty&&captured.isEmpty then (match tr f with | some k => .d (.func k [] []) | none => .poison) else .poison
 | _ => .poison
def uK (tr:FuncId->Option Nat):Value->V
 | .agg cs=>mkAgg (cs.toList.map (vp tr))
 | .tuple cs=>mkTuple (cs.toList.map (vp tr))
 | v=>vp tr v
def opd (tr:FuncId->Option Nat):Operand->Opd
 | .tmp t => .t t
 | .const v => .c (uK tr v)
 | .global _ => .c .poison
 | .func f=>match tr f with | some k => .c (.d (.func k [] [])) | none => .c .poison
section
variable (P:Program) (tr:FuncId->Option Nat)
def sizeT (t:TypeId):Option Nat:=(P.info? t).map (·.size)
def fT (t:TypeId):Option Nat:=(P.info? t).map (·.bytes)
def zeroT (t:TypeId):Option (List V):=(P.info? t).bind fun i=>i.zero.map fun z=>z.cells.toList.map (vp tr)
def aggT (t:TypeId):Option Bool:=(P.underlying t).map fun | .struct _ | .array _ _=>true | _=>false
def sm (t:TypeId):Bool:=(match P.underlying t with | some (.int _)=>true | _=>false)&&sizeT P t==some 1
def dG (t:TypeId):Cmp :=
 match P.underlying t with
 | some .bool => .bool
 | some (.int _) => .int
 | some .string => .str
 | some (.pointer _) => .ptr
 | some (.slice _) => .slice
 | some (.map _ _) => .map
 | some (.func _ _ _) => .func
 | some (.struct fs)=>if !P.stoodInHeld t && !P.eqGuardType P.depth t&&fs.toList.zipIdx.all (fun (f,i)=>f.name != "_" && f.offset==i&&sm P f.type) then .flat fs.size else .no
 | some (.array n e)=>if !P.eqGuardType P.depth t&&sm P e then .flat n else .no
 | _ => .no
def nR:Array Operand->List Opd:=fun l=>l.toList.map (opd tr)
def aG (mu:Bool) (slot:Nat) (o:Oper):VOp×Nat :=
 let x:=opd tr
 let ok (v:Option VOp):VOp×Nat:=(v.getD .fail,slot)
 let mk (v:Option VOp):VOp×Nat:=(v.getD .fail,slot+1)
 match o.op with
 | .move a | .assign a=>ok (some (.mv (x a)))
 | .pick c a b=>ok (some (.pick (x c) (x a) (x b)))
 | .alloc t=>mk ((zeroT P tr t).map fun z => .alloc slot z)
 | .box _ a=>mk (some (.box slot (x a)))
 | .build t parts=>ok do
   let z<-zeroT P tr t
   match<-P.underlying t with
   | .struct fields=>if !(fields.toList.all fun f=>(sizeT P f.type).isSome) then none else some (.build z (<- parts.toList.mapM fun (i,a)=>do let f<-fields[i]?;some (f.offset,<- sizeT P f.type,x a)))
   | .array _ e=>let n<-sizeT P e;some (.build z (parts.toList.map fun (i,a)=>(i*n,n,x a)))
   | _=>none
 | .buildSlice t len parts=>bif mu&&Nat.blt 0 len then mk (do
   let .slice e<-P.underlying t | none
   let n<-sizeT P e
   let z<-zeroT P tr e
   if len*n<=2 ^ 20/\z.length=n/\0 < n then some (.mslice slot n z len (parts.toList.map fun (i,a)=>(i,x a))) else none) else ok do
   let .slice e<-P.underlying t | none
   let n<-sizeT P e
   let z<-zeroT P tr e
   if len*n<=2 ^ 20/\z.length=n/\0 < n then some (.bslice n z len (parts.toList.map fun (i,a)=>(i,x a))) else none
 | .load t a=>ok do
   let b<-aggT P t
   let n<-sizeT P t
   if b||n==1 then some (.load b n (x a)) else none
 | .store t a b=>ok do some (.store (<- sizeT P t) (x a) (x b))
 | .nilCheck a=>ok (some (.nilc (x a)))
 | .binOp op t a b _=>ok (some (.bin op (dG P t) (x a) (x b)))
 | .unOp op _ a=>ok (some (.un op (x a)))
 | .convert s d a=>ok (match P.underlying s,P.underlying d with | some (.int _),some (.int k)=>some (.conv k (x a)) | _,_=>none)
 | .makeSlice t l c=>mk do
   let .slice e<-P.underlying t | none
   let n<-sizeT P e
   let z<-zeroT P tr e
   if z.length=n/\0 < n then some (.mkslice slot n (<- fT P e) z (x l) (x c)) else none
 | .slice t a lo hi mx=>ok (match P.underlying t with
   | some (.slice e)=>(sizeT P e).bind fun n=>if 0 < n&&mx.isNone then some (.slice n (x a) (lo.map x) (hi.map x)) else none
   | some .string=>if mx.isNone then some (.slice 0 (x a) (lo.map x) (hi.map x)) else none
   | some (.array n e)=>if mx.isNone then (sizeT P e).map fun k => .slarr n k (x a) (lo.map x) (hi.map x) else none
   | _=>none)
 | .fieldAddr t a i=>ok (match P.underlying t with | some (.struct fields)=>(fields[i]?).bind fun f=>(sizeT P f.type).bind fun n=>if 0 < n then some (.faddr f.offset (x a)) else none | _=>none)
 | .indexAddr t a i=>ok (match P.underlying t with
   | some (.slice e)=>(sizeT P e).bind fun n=>if 0 < n then some (.iaddrS n (x a) (x i)) else none
   | some (.array n e)=>(sizeT P e).bind fun k=>some (.iaddrA n k (x a) (x i))
   | _=>none)
 | .index t a i=>ok (match P.underlying t with
   | some .string=>some (.index (x a) (x i))
   | some (.array n e)=>if sizeT P e=some 1/\aggT P e=some false then some (.indexA n (x a) (x i)) else none
   | _=>none)
 | .lookup t m k c=>ok (match P.underlying t with
   | some (.map kt e)=>(P.info? e).bind fun i=>i.zero.map fun z => .lookup (dG P kt) (uK tr z) (x m) (x k) c
   | _=>none)
 | .mapUpdate t m k v=>ok (match P.underlying t with
   | some (.map kt _)=>some (.mapup (dG P kt) (x m) (x k) (x v))
   | _=>none)
 | .makeMap _ none=>mk (some (.mkmap slot))
 | .extract a i=>ok (some (.ext (x a) i))
 | .makeFunc (.func f) a b=>ok ((tr f).map fun k => .mkfunc k (nR tr a) (nR tr b))
 | .call c =>
   match c.callee with
   | .value (.func f)=>ok ((tr f).map fun k => .call k (nR tr c.args))
   | .value f=>ok (some (.callv (x f) (nR tr c.args)))
   | .builtin .len=>match c.args.toList with
     | [a]=>ok (match (c.argTypes[0]?).bind P.underlying with
       | some (.slice _)=>some (.len .slice (x a))
       | some .string=>some (.len .str (x a))
       | some (.map _ _)=>some (.len .map (x a))
       | some (.array n _)=>some (.mv (.c (me n)))
       | _=>none)
     | _=>ok none
   | .builtin .append=>match c.args.toList with
     | [a,b]=>mk do
       let .slice e<-P.underlying (<- c.argTypes[0]?) | none
       let .slice e'<-P.underlying (<- c.argTypes[1]?) | none
       let n<-sizeT P e
       let z<-zeroT P tr e
       if sizeT P e'=some n/\0 < n/\z.length=n then some (.append slot n (<- fT P e) (x a) (x b)) else none
     | _=>ok none
   | .builtin .max=>ok (some (.max (nR tr c.args)))
   | .builtin .min=>ok (some (.min (nR tr c.args)))
   | .builtin .clear=>match c.args.toList with
     | [a]=>ok do
       let .slice e<-P.underlying (<- c.argTypes[0]?) | none
       let z<-zeroT P tr e
       if sizeT P e=some z.length/\0 < z.length then some (.clear z (x a)) else none
     | _=>ok none
   | _=>ok none
 | _=>ok none
end
def tOf:Opd->List Nat
 | .t n=>[n]
 | .c _=>[]
def np (l:List Opd):List Nat:=l.flatMap tOf
def o7:VOp->List Opd
 | .fail | .alloc _ _ | .mkmap _=>[]
 | .mv x | .box _ x | .load _ _ x | .nilc x | .un _ x | .conv _ x | .faddr _ x | .ext x _ | .len _ x | .clear _ x=>[x]
 | .pick c a b=>[c,a,b]
 | .build _ ps=>ps.map (·.2.2)
 | .bslice _ _ _ ps | .mslice _ _ _ _ ps=>ps.map (·.2)
 | .store _ a b | .bin _ _ a b | .mkslice _ _ _ _ a b | .iaddrS _ a b | .iaddrA _ _ a b | .index a b | .indexA _ a b | .lookup _ _ a b _ | .append _ _ _ a b=>[a,b]
 | .slice _ x a b | .slarr _ _ x a b=>x::(a.toList++b.toList)
 | .mapup _ a b c=>[a,b,c]
 | .mkfunc _ a b=>a++b
 | .call _ xs | .max xs | .min xs=>xs
 | .callv f xs=>f::xs
def jI (o:VOper):List Nat:=np (o7 o.op)++(match o.guard with | some (t,_)=>[t] | none=>[])
def aaB:VOp->Bool
 | .bslice .. | .load .. | .store .. | .slice .. | .slarr .. | .iaddrS .. | .len .. | .lookup .. | .mapup .. | .clear .. | .append .. | .call .. | .callv .. => true
 | _=>false
def wp:VOp->Bool
 | .bslice .. | .store .. | .mapup .. | .clear .. | .append .. | .call .. | .callv .. | .alloc .. | .box .. | .mkslice .. | .mkmap .. | .mslice .. => true
 | _=>false
def bP (ops:List Oper):List Nat :=
 ops.foldl (fun acc o=>acc++[((o.after.toList.filter fun e=>Region.binds .any e).map (·.on)).foldl (fun m j=>m ||| 2 ^ j ||| acc.getD j 0) 0]) []
def cJ (a b:VOper):Bool :=
 (match a.dst with | some d => !(jI b).contains d&&b.dst != some d | none=>true) &&
 (match b.dst with | some d => !(jI a).contains d | none=>true)
def hM (a b:VOp):Bool :=
 (!wp a && !wp b)||(!wp a && !aaB a)||(!wp b && !aaB b)
def kN (ops:List Oper):Bool :=
 (ops.zipIdx).all fun (o,i)=>o.after.all fun e => !Region.binds .any e||decide (e.on < i)
def iG (anc:List Nat) (vs:List VOper):List (Nat×Nat) :=
 (List.range vs.length).flatMap fun j=>((List.range j).filter fun i =>
  !(anc.getD j 0).testBit i && !hM (vs.getD i default).op (vs.getD j default).op).map fun i=>(i,j)
def qk (anc:List Nat) (vs:List VOper):Bool :=
 (List.range vs.length).all fun j=>(List.range j).all fun i =>
  (anc.getD j 0).testBit i||cJ (vs.getD i default) (vs.getD j default)
def bq (P:Program) (tr:FuncId->Option Nat) (mu:Bool) (all:Array Oper):Nat->List Oper->List VOper×Nat
 | slot,[]=>([],slot)
 | slot,o::os =>
   let (v,slot):=aG P tr mu slot o
   let g:Option (Nat×Bool)×Bool:=match o.guard with
    | none=>(none,true)
    | some (j,want)=>match (all[j]?).bind (·.dst) with | some t=>(some (t,want),true) | none=>(none,false)
   let (vs,slot):=bq P tr mu all slot os
   ({ dst:=o.dst,op:=if g.2 then v else .fail,guard:=g.1 } :: vs,slot)
def gm (P:Program) (tr:FuncId->Option Nat) (mu:Bool) (ops:Array Oper) (draw:Bool):VCode :=
 let (vs,slots):=bq P tr mu ops 0 ops.toList
 if draw then
  let anc:=bP ops.toList
  if kN ops.toList&&qk anc vs then .region (some (iG anc vs)) slots vs else .fail
 else .region none slots vs
def b6:VCode->Bool
 | .seq a b | .cond _ a b=>b6 a&&b6 b
 | .block _ a | .loop _ a=>b6 a
 | .rangeFunc .. => false
 | _=>true
def compCode (P:Program) (tr:FuncId->Option Nat) (mu:Bool):Code->List (List Nat)->VCode×List (List Nat)
 | .skip,l=>(.skip,l)
 | .region _ ops draw,l=>(gm P tr mu ops draw,l)
 | .seq a b,l=>let (x,l):=compCode P tr mu a l;let (y,l):=compCode P tr mu b l;(.seq x y,l)
 | .cond c a b,l=>let (x,l):=compCode P tr mu a l;let (y,l):=compCode P tr mu b l;(.cond (opd tr c) x y,l)
 | .block id a,l=>let (x,l):=compCode P tr mu a l;(.block id x,l)
 | .loop a,l=>match l with
   | live::l=>let (x,l):=compCode P tr mu a l;(.loop live x,l)
   | []=>(.fail,[])
 | .rangeFunc f ps a b,l=>match l with
   | live::l=>let (x,l):=compCode P tr mu a l;let (y,l):=compCode P tr mu b l;(if b6 x&&b6 y then .rangeFunc (opd tr f) live ps.toList x y else .fail,l)
   | []=>(.fail,[])
 | .label _,l=>(.skip,l)
 | .scope a,l=>compCode P tr mu a l
 | .exit id,l=>(.exit id,l)
 | .ret,l=>(.ret,l)
 | _,l=>(.fail,l)
def b8 (N:Nat):VCode->Bool
 | .region _ _ ops=>ops.all fun o=>match o.dst with | some d=>decide (d < N) | none=>true
 | .seq a b | .cond _ a b=>b8 N a&&b8 N b
 | .rangeFunc _ _ ps a b=>ps.all (fun t=>decide (t < N))&&b8 N a&&b8 N b
 | .block _ a | .loop _ a=>b8 N a
 | _=>true
def kI (P:Program):ResultVar->Option VRes
 | .tmp t=>some (.t t)
 | .cell a t=>do
   let b<-aggT P t
   let n<-sizeT P t
   if b||n==1 then some (.cell a b n) else none
def jX (P:Program) (tr:FuncId->Option Nat) (byRef:List Bool) (keep split:Bool) (lives:List (List Nat)) (fn:Func):Option VFun:=do
 let body<-fn.body
 if !b8 fn.ntmps (compCode P tr (keep && !split) body lives).1 then none else
 some { byRef,keep,split,body:=(compCode P tr (keep && !split) body lives).1,res := <- fn.results.toList.mapM (kI P) }
end Go.Proofs.YtncfpmehhfdipaaGreat
namespace Go.Proofs.YtncfpmehhfdipaaGreat
open Go.RowKit
abbrev aS:=Nat->Nat->Option Value
abbrev ax:=Nat->Nat×Nat
section
variable (fo:Nat->Option FuncId) (K:aS)
mutual
inductive RD:D->Value->Prop
 | bool (b:Bool):RD (.bool b) (.bool b)
 | int (k:IntKind) (n:Int):RD (.int k n) (.int k n)
 | str (s:ByteArray):RD (.str s) (.string s)
 | nilp:RD .nilp (.pointer none)
 | nilf:RD .nilf .nilFunc
 | nilm:RD .nilm (.map none)
 | nili:RD .nili .nilIface
 | sliceE (a:Option Addr) (cap:Nat):(a=none->cap=0)->RD (.slice []) (.slice a 0 cap)
 | slice (es:List D) (B o cap esz:Nat) (vs:List Value):es≠[]->0 < esz->(∀ e∈es,e.cells.length=esz)->RDs (es.flatMap D.cells) vs ->
    (∀ j v,vs[j]?=some v->K B (o+j)=some v)->es.length<=cap->RD (.slice es) (.slice (some ⟨B,o,none⟩) es.length cap)
 | iptr (cs:List D) (off B o:Nat) (vs:List Value):RDs cs vs->(∀ j v,vs[j]?=some v->K B (o+j)=some v)->RD (.iptr cs off) (.pointer (some ⟨B,o+off,none⟩))
 | agg (cs:List D) (vs:Array Value):RDs cs vs.toList->RD (.agg cs) (.agg vs)
 | tuple (cs:List D) (vs:Array Value):RDs cs vs.toList->RD (.tuple cs) (.tuple vs)
 | func (f:Nat) (g:FuncId) (a b:List D) (va vb:Array Value):fo f=some g->RDs a va.toList->RDs b vb.toList->RD (.func f a b) (.func (.func g) va vb)
inductive RDs:List D->List Value->Prop
 | nil:RDs [] []
 | cons (d:D) (v:Value) (ds:List D) (vs:List Value):RD d v->RDs ds vs->RDs (d::ds) (v::vs)
end
end
def vo (s:aa) (id:Nat):Option (Nat×Nat):=match getB s id with | some (.rows v _ e _)=>some (v,e) | some _=>some (0,0) | none=>none
section
variable (fo:Nat->Option FuncId) (K:aS) (ρ:ax) (vv:Nat->Option (Nat×Nat))
mutual
inductive RV:V->Value->Prop
 | poison (v:Value):RV .poison v
 | d (x:D) (v:Value):RD fo K x v->RV (.d x) v
 | nils:RV .nils (.slice none 0 0)
 | emp (a:Option Addr):RV .emp (.slice a 0 0)
 | non (a:Addr) (cap:Nat):RV .non (.slice (some a) 0 cap)
 | lit (es:List D) (a:Addr):RD fo K (.slice es) (.slice (some a) es.length es.length)->RV (.lit es) (.slice (some a) es.length es.length)
 | ptr (id ver i j v e:Nat) (a:Addr):vv id=some (v,e)->(v<=ver->ver=v/\a=⟨(ρ id).1,i*e+j,none⟩)->RV (.ptr id ver i j) (.pointer (some a))
 | ms (id ver off len v e:Nat) (a:Addr) (n cap:Nat):vv id=some (v,e) ->
    (v<=ver->ver=v/\a=⟨(ρ id).1,off*e,none⟩/\n=len/\len<=cap/\(off+cap)*e<=(ρ id).2)->RV (.ms id ver off len) (.slice (some a) n cap)
 | asl (id ver i j len v e:Nat) (a:Addr) (n cap:Nat):vv id=some (v,e) ->
    (v<=ver->ver=v/\a=⟨(ρ id).1,i*e+j,none⟩/\n=len/\len<=cap)->RV (.asl id ver i j len) (.slice (some a) n cap)
 | agg (cs:List V) (vs:Array Value):RVs cs vs.toList->RV (.agg cs) (.agg vs)
 | tuple (cs:List V) (vs:Array Value):RVs cs vs.toList->RV (.tuple cs) (.tuple vs)
 | func (f:Nat) (g:FuncId) (a b:List V) (va vb:Array Value):fo f=some g->RVs a va.toList->RVs b vb.toList->RV (.func f a b) (.func (.func g) va vb)
 | map (id v:Nat):vv id=some (v,0)->RV (.map id) (.map (some (ρ id).1))
 | yield (id v:Nat):vv id=some (v,0)->RV (.yield id) (.func (.yield (ρ id).1) #[] #[])
inductive RVs:List V->List Value->Prop
 | nil:RVs [] []
 | cons (x:V) (v:Value) (xs:List V) (vs:List Value):RV x v->RVs xs vs->RVs (x::xs) (v::vs)
end
end
section
variable {fo:Nat->Option FuncId} {K K':aS}
mutual
theorem RD.mono (hK : ∀ B o v,K B o=some v->K' B o=some v) : ∀ {d v},RD fo K d v->RD fo K' d v
 | _,_,.bool b => .bool b
 | _,_,.int k n => .int k n
 | _,_,.str s => .str s
 | _,_,.nilp => .nilp
 | _,_,.nilf => .nilf
 | _,_,.nilm => .nilm
 | _,_,.nili => .nili
 | _,_,.sliceE a c h => .sliceE a c h
 | _,_,.slice es B o cap esz vs h0 h1 h2 h3 h4 h5 => .slice es B o cap esz vs h0 h1 h2 (RDs.mono hK h3) (fun j v h=>hK _ _ _ (h4 j v h)) h5
 | _,_,.iptr cs off B o vs h1 h2 => .iptr cs off B o vs (RDs.mono hK h1) (fun j v h=>hK _ _ _ (h2 j v h))
 | _,_,.agg cs vs h => .agg cs vs (RDs.mono hK h)
 | _,_,.tuple cs vs h => .tuple cs vs (RDs.mono hK h)
 | _,_,.func f g a b va vb h h1 h2 => .func f g a b va vb h (RDs.mono hK h1) (RDs.mono hK h2)
theorem RDs.mono (hK : ∀ B o v,K B o=some v->K' B o=some v) : ∀ {d v},RDs fo K d v->RDs fo K' d v
 | _,_,.nil => .nil
 | _,_,.cons d v ds vs h hs => .cons d v ds vs (RD.mono hK h) (RDs.mono hK hs)
end
variable {ρ ρ':ax} {vv vv':Nat->Option (Nat×Nat)}
def Later (ρ ρ':ax) (vv vv':Nat->Option (Nat×Nat)):Prop :=
 ∀ id v e,vv id=some (v,e) -> ∃ v',vv' id=some (v',e)/\v<=v'/\(v=v'->ρ' id=ρ id)/\(e=0->v'=v)
theorem Later.refl:Later ρ ρ vv vv:=fun _ v _ h=>⟨v,h,Nat.le_refl _,fun _=>rfl,fun _=>rfl⟩
theorem Later.trans {ρ'':ax} {vv'':Nat->Option (Nat×Nat)} (h:Later ρ ρ' vv vv') (h':Later ρ' ρ'' vv' vv''):Later ρ ρ'' vv vv'':=by
 intro id v e hv
 obtain ⟨v1,h1,l1,e1,z1⟩:=h id v e hv
 obtain ⟨v2,h2,l2,e2,z2⟩:=h' id v1 e h1
 exact ⟨v2,h2,Nat.le_trans l1 l2,fun heq=>by rw [e2 (by omega),e1 (by omega)],fun he=>by rw [z2 he,z1 he]⟩
mutual
theorem RV.mono (hK : ∀ B o v,K B o=some v->K' B o=some v) (hL:Later ρ ρ' vv vv') : ∀ {x v},RV fo K ρ vv x v->RV fo K' ρ' vv' x v
 | _,_,.poison v => .poison v
 | _,_,.d x v h => .d x v (h.mono hK)
 | _,_,.nils => .nils
 | _,_,.emp a => .emp a
 | _,_,.non a c => .non a c
 | _,_,.lit es a h => .lit es a (h.mono hK)
 | _,_,.ptr id ver i j v e a h1 h2=>by
   obtain ⟨v',e1,l1,e2,_⟩:=hL id v e h1
   refine .ptr id ver i j v' e a e1 (fun hle => ?_)
   obtain ⟨r1,r2⟩:=h2 (by omega)
   exact ⟨by omega,by rw [e2 (by omega)];exact r2⟩
 | _,_,.ms id ver off len v e a n cap h1 h2=>by
   obtain ⟨v',e1,l1,e2,_⟩:=hL id v e h1
   refine .ms id ver off len v' e a n cap e1 (fun hle => ?_)
   obtain ⟨r1,r2,r3,r4,r5⟩:=h2 (by omega)
   rw [e2 (by omega)]
   exact ⟨by omega,r2,r3,r4,r5⟩
 | _,_,.asl id ver i j len v e a n cap h1 h2=>by
   obtain ⟨v',e1,l1,e2,_⟩:=hL id v e h1
   refine .asl id ver i j len v' e a n cap e1 (fun hle => ?_)
   obtain ⟨r1,r2,r3,r4⟩:=h2 (by omega)
   rw [e2 (by omega)]
   exact ⟨by omega,r2,r3,r4⟩
 | _,_,.agg cs vs h => .agg cs vs (RVs.mono hK hL h)
 | _,_,.tuple cs vs h => .tuple cs vs (RVs.mono hK hL h)
 | _,_,.func f g a b va vb h h1 h2 => .func f g a b va vb h (RVs.mono hK hL h1) (RVs.mono hK hL h2)
 | _,_,.map id v h=>by
   obtain ⟨v',e1,_,e2,e3⟩:=hL id v 0 h
   rw [<- e2 (e3 rfl).symm]
   exact .map id v' e1
 | _,_,.yield id v h=>by
   obtain ⟨v',e1,_,e2,e3⟩:=hL id v 0 h
   rw [<- e2 (e3 rfl).symm]
   exact .yield id v' e1
theorem RVs.mono (hK : ∀ B o v,K B o=some v->K' B o=some v) (hL:Later ρ ρ' vv vv') : ∀ {x v},RVs fo K ρ vv x v->RVs fo K' ρ' vv' x v
 | _,_,.nil => .nil
 | _,_,.cons x v xs vs h hs => .cons x v xs vs (RV.mono hK hL h) (RVs.mono hK hL hs)
end
theorem RDs.length : ∀ {ds vs},RDs fo K ds vs->ds.length=vs.length
 | _,_,.nil=>rfl
 | _,_,.cons _ _ _ _ _ h=>by simp [h.length]
theorem RVs.length : ∀ {xs vs},RVs fo K ρ vv xs vs->xs.length=vs.length
 | _,_,.nil=>rfl
 | _,_,.cons _ _ _ _ _ h=>by simp [h.length]
theorem RDs.get : ∀ {ds vs},RDs fo K ds vs -> ∀ {i:Nat} {d},ds[i]?=some d -> ∃ v,vs[i]?=some v/\RD fo K d v
 | _,_,.nil,_,_,h=>by simp at h
 | _,_,.cons _ v _ _ h hs,i,d,hi=>by
   cases i with
   | zero=>simp at hi;subst hi;exact ⟨v,by simp,h⟩
   | succ i=>simp at hi;simpa using hs.get hi
theorem RVs.get : ∀ {ds vs},RVs fo K ρ vv ds vs -> ∀ {i:Nat} {d},ds[i]?=some d -> ∃ v,vs[i]?=some v/\RV fo K ρ vv d v
 | _,_,.nil,_,_,h=>by simp at h
 | _,_,.cons _ v _ _ h hs,i,d,hi=>by
   cases i with
   | zero=>simp at hi;subst hi;exact ⟨v,by simp,h⟩
   | succ i=>simp at hi;simpa using hs.get hi
theorem RDs.of_get : ∀ {ds:List D} {vs:List Value},ds.length=vs.length->(∀ (i:Nat) (d:D) (v:Value),ds[i]?=some d->vs[i]?=some v->RD fo K d v)->RDs fo K ds vs
 | [],[],_,_ => .nil
 | d::ds,v::vs,hl,h => .cons d v ds vs (h 0 d v (by simp) (by simp)) (RDs.of_get (by simpa using hl) fun i d v h1 h2=>h (i+1) d v (by simpa using h1) (by simpa using h2))
 | [],_::_,hl,_=>by simp at hl
 | _::_,[],hl,_=>by simp at hl
theorem RVs.of_get : ∀ {ds:List V} {vs:List Value},ds.length=vs.length->(∀ (i:Nat) (d:V) (v:Value),ds[i]?=some d->vs[i]?=some v->RV fo K ρ vv d v)->RVs fo K ρ vv ds vs
 | [],[],_,_ => .nil
 | d::ds,v::vs,hl,h => .cons d v ds vs (h 0 d v (by simp) (by simp)) (RVs.of_get (by simpa using hl) fun i d v h1 h2=>h (i+1) d v (by simpa using h1) (by simpa using h2))
 | [],_::_,hl,_=>by simp at hl
 | _::_,[],hl,_=>by simp at hl
theorem RDs.append : ∀ {as vs},RDs fo K as vs -> ∀ {bs ws},RDs fo K bs ws->RDs fo K (as++bs) (vs++ws)
 | _,_,.nil,_,_,h=>h
 | _,_,.cons d v _ _ h hs,_,_,h' => .cons d v _ _ h (hs.append h')
theorem RVs.append : ∀ {as vs},RVs fo K ρ vv as vs -> ∀ {bs ws},RVs fo K ρ vv bs ws->RVs fo K ρ vv (as++bs) (vs++ws)
 | _,_,.nil,_,_,h=>h
 | _,_,.cons d v _ _ h hs,_,_,h' => .cons d v _ _ h (hs.append h')
theorem RDs.take (n:Nat) {as vs} (h:RDs fo K as vs):RDs fo K (as.take n) (vs.take n) :=
 .of_get (by simp [h.length]) fun i d v h1 h2=>by
  simp only [List.getElem?_take] at h1 h2
  split at h1<;>simp_all
  obtain ⟨w,e1,e2⟩:=h.get h1
  rw [h2] at e1;injection e1 with e1;exact e1▸e2
theorem RDs.drop (n:Nat) {as vs} (h:RDs fo K as vs):RDs fo K (as.drop n) (vs.drop n) :=
 .of_get (by simp [h.length]) fun i d v h1 h2=>by
  simp only [List.getElem?_drop] at h1 h2
  obtain ⟨w,e1,e2⟩:=h.get h1
  rw [h2] at e1;injection e1 with e1;exact e1▸e2
theorem RVs.take (n:Nat) {as vs} (h:RVs fo K ρ vv as vs):RVs fo K ρ vv (as.take n) (vs.take n) :=
 .of_get (by simp [h.length]) fun i d v h1 h2=>by
  simp only [List.getElem?_take] at h1 h2
  split at h1<;>simp_all
  obtain ⟨w,e1,e2⟩:=h.get h1
  rw [h2] at e1;injection e1 with e1;exact e1▸e2
theorem RVs.drop (n:Nat) {as vs} (h:RVs fo K ρ vv as vs):RVs fo K ρ vv (as.drop n) (vs.drop n) :=
 .of_get (by simp [h.length]) fun i d v h1 h2=>by
  simp only [List.getElem?_drop] at h1 h2
  obtain ⟨w,e1,e2⟩:=h.get h1
  rw [h2] at e1;injection e1 with e1;exact e1▸e2
theorem RVs.of_d : ∀ {ds vs},RDs fo K ds vs->RVs fo K ρ vv (ds.map .d) vs
 | _,_,.nil => .nil
 | _,_,.cons d v _ _ h hs => .cons _ _ _ _ (.d d v h) (RVs.of_d hs)
theorem RVs.asDs : ∀ {xs vs},RVs fo K ρ vv xs vs -> ∀ {ds},asDs xs=some ds->RDs fo K ds vs
 | _,_,.nil,_,h=>by simp [YtncfpmehhfdipaaGreat.asDs] at h;subst h;exact .nil
 | _,_,.cons x v xs vs h hs,ds,e=>by
   cases h with
   | d d v hd =>
     simp only [YtncfpmehhfdipaaGreat.asDs] at e
     cases hx:YtncfpmehhfdipaaGreat.asDs xs with
     | none=>simp [hx] at e
     | some ds'=>simp [hx] at e;subst e;exact .cons d v ds' vs hd (hs.asDs hx)
   | _=>simp [YtncfpmehhfdipaaGreat.asDs] at e
theorem RV.mkAgg {xs:List V} {vs:Array Value} (h:RVs fo K ρ vv xs vs.toList):RV fo K ρ vv (mkAgg xs) (.agg vs):=by
 unfold YtncfpmehhfdipaaGreat.mkAgg
 cases hx:YtncfpmehhfdipaaGreat.asDs xs with
 | none=>exact .agg xs vs h
 | some ds=>exact .d _ _ (.agg ds vs (h.asDs hx))
theorem RV.mkTuple {xs:List V} {vs:Array Value} (h:RVs fo K ρ vv xs vs.toList):RV fo K ρ vv (mkTuple xs) (.tuple vs):=by
 unfold YtncfpmehhfdipaaGreat.mkTuple
 cases hx:YtncfpmehhfdipaaGreat.asDs xs with
 | none=>exact .tuple xs vs h
 | some ds=>exact .d _ _ (.tuple ds vs (h.asDs hx))
theorem RV.mkFunc {f:Nat} {g:FuncId} {a b:List V} {va vb:Array Value} (hf:fo f=some g) (h:RVs fo K ρ vv a va.toList) (h':RVs fo K ρ vv b vb.toList):RV fo K ρ vv (mkFunc f a b) (.func (.func g) va vb):=by
 unfold YtncfpmehhfdipaaGreat.mkFunc
 cases hx:YtncfpmehhfdipaaGreat.asDs a with
 | none=>simp only;exact .func f g a b va vb hf h h'
 | some x=>cases hy:YtncfpmehhfdipaaGreat.asDs b with
   | none=>simp only;exact .func f g a b va vb hf h h'
   | some y=>exact .d _ _ (.func f g x y va vb hf (h.asDs hx) (h'.asDs hy))
theorem RD.cells {d:D} {v:Value} (h:RD fo K d v):RDs fo K d.cells v.cells.toList:=by
 cases h<;>first | (simp only [D.cells,Value.cells];assumption) | (refine .cons _ _ _ _ ?_ .nil;constructor<;>assumption)
theorem RV.cells {x:V} {v:Value} (hp:x ≠ .poison) (h:RV fo K ρ vv x v):RVs fo K ρ vv x.cells v.cells.toList:=by
 cases h with
 | d d v h =>
   simp only [V.cells]
   exact RVs.of_d h.cells
 | poison=>exact absurd rfl hp
 | agg cs vs h=>simpa only [V.cells,Value.cells] using h
 | _=>refine .cons _ _ _ _ ?_ .nil;constructor<;>assumption
theorem RV.cellV {x:V} {v:Value} (h:RV fo K ρ vv x v) (hs:aH x=true):v.oneCell'=true:=by
 cases h<;>first | rfl | (simp [aH] at hs;done) | skip
 rename_i d hd
 cases hd<;>first | rfl | (simp [aH,bY] at hs;done)
end
end Go.Proofs.YtncfpmehhfdipaaGreat
namespace Go.Proofs.YtncfpmehhfdipaaGreat
open Go.RowKit
def ol (P:Program) (fo:Nat->Option FuncId) (N:Nat) (c:Code) (v:VCode):Prop :=
 ∃ tr lives mu,(∀ g f,tr g=some f->fo f=some g)/\(compCode P tr mu c lives).1=v/\b8 N v=true/\b6 v=true
def sI:LoopState->Nat
 | .ready=>0 | .busy=>1 | .done=>2 | .exhausted=>3
def fO:Jump->Option Code
 | .none=>none
 | .exit id=>some (.exit id)
 | .ret=>some .ret
section
variable (P:Program) (fo:Nat->Option FuncId) (K:aS) (ρ:ax) (vv:Nat->Option (Nat×Nat)) (w:World)
inductive RBlk:Blk->Nat×Nat->Prop
 | rows (ver:Nat) (ro:Bool) (esz:Nat) (els:List (List V)) (B size:Nat) (c:Array Value) (t:TypeId):w.heap[B]?=some (.cells c t (0,0))->c.size=size->els.length*esz<=size ->
    (∀ r∈els,r.length=esz)->(∀ (i:Nat) r,els[i]?=some r -> ∀ (j:Nat) x,r[j]?=some x -> ∃ v,c[i*esz+j]?=some v/\RV fo K ρ vv x v/\v.oneCell'=true) ->
    (ro=false -> ∀ o,K B o=none)->RBlk (.rows ver ro esz els) (B,size)
 | map (es:List (D×V)) (B size:Nat) (ents:Array MapEntry) (clock:Nat):w.heap[B]?=some (.map ents clock)->es.length=ents.size ->
    (∀ (i:Nat) k x,es[i]?=some (k,x) -> ∃ e,ents[i]?=some e/\RD fo K k e.key/\RV fo K ρ vv x e.val)->(∀ o,K B o=none)->RBlk (.map es) (B,size)
 | loop (st:Nat) (j:Jump) (env:List (Nat×V)) (params:List Nat) (assign body:VCode) (B size:Nat) (l:Loop) (N:Nat):w.heap[B]?=some (.loop l)->sI l.state=st->l.pending=fO j ->
    (∀ t x,(t,x)∈env->RV fo K ρ vv x (l.tmps.getD t undef))->l.params.toList=params->ol P fo N l.assign assign->ol P fo N l.body body->N<=l.tmps.size ->
    (∀ t∈params,t < l.tmps.size)->(∀ o,K B o=none)->RBlk (.loop st j env params assign body) (B,size)
end
structure RS (P:Program) (fo:Nat->Option FuncId) (base:Nat) (K:aS) (ρ:ax) (s:aa) (w:World):Prop where
 known : ∀ B o v,K B o=some v -> ∃ c t z,w.heap[B]?=some (.cells c t z)/\c[o]?=some v
 blk : ∀ id b,getB s id=some b->RBlk P fo K ρ (vo s) w b (ρ id)/\base<=(ρ id).1
 inj : ∀ i j a b,getB s i=some a->getB s j=some b->(ρ i).1=(ρ j).1->i=j
 base:base<=w.heap.size
 one : ∀ B o v,K B o=some v->v.oneCell'=true
structure Stp (base:Nat) (K:aS) (ρ:ax) (s:aa) (w:World) (K':aS) (ρ':ax) (s':aa) (w':World):Prop where
 known : ∀ B o v,K B o=some v->K' B o=some v
 later:Later ρ ρ' (vo s) (vo s')
 below:Below base w w'
 frame : ∀ B,B < w.heap.size->(∀ id b,getB s id=some b->(ρ id).1≠B)->w'.heap[B]?=w.heap[B]?
 img : ∀ id b',getB s' id=some b'->(ρ' id).1 < w.heap.size -> ∃ i b,getB s i=some b/\(ρ i).1=(ρ' id).1
 learn : ∀ B o v,K' B o=some v->K B o=none->B < w.heap.size -> ∃ i b,getB s i=some b/\(ρ i).1=B
variable {mu:Bool}
variable {P:Program} {fo:Nat->Option FuncId} {base:Nat} {K K' K'':aS} {ρ ρ' ρ'':ax} {s s' s'':aa} {w w' w'':World}
theorem Stp.refl:Stp base K ρ s w K ρ s w:=⟨fun _ _ _ h=>h,.refl,.refl _ _,fun _ _ _=>rfl,fun id b h _=>⟨id,b,h,rfl⟩,fun B o v h h' _=>by rw [h] at h';cases h'⟩
theorem Stp.trans (h:Stp base K ρ s w K' ρ' s' w') (h':Stp base K' ρ' s' w' K'' ρ'' s'' w''):Stp base K ρ s w K'' ρ'' s'' w'' where
 known B o v hv:=h'.known _ _ _ (h.known _ _ _ hv)
 later:=h.later.trans h'.later
 below:=h.below.trans h'.below
 frame B hB hn:=by
  rw [h'.frame B (by have:=h.below.size;omega) (fun id b hb he=>by
   obtain ⟨i,b0,h0,e0⟩:=h.img id b hb (by omega)
   exact hn i b0 h0 (e0.trans he)),h.frame B hB hn]
 img id b hb hlt:=by
  obtain ⟨i,b1,h1,e1⟩:=h'.img id b hb (by have:=h.below.size;omega)
  obtain ⟨i2,b2,h2,e2⟩:=h.img i b1 h1 (by omega)
  exact ⟨i2,b2,h2,e2.trans e1⟩
 learn B o v hv hn hlt:=by
  cases hk:K' B o with
  | some u=>exact h.learn B o u hk hn hlt
  | none =>
    obtain ⟨i,b,hi,e⟩:=h'.learn B o v hv hk (by have:=h.below.size;omega)
    obtain ⟨i2,b2,h2,e2⟩:=h.img i b hi (by omega)
    exact ⟨i2,b2,h2,e2.trans e⟩
theorem Stp.rv (h:Stp base K ρ s w K' ρ' s' w') {x:V} {v:Value} (hx:RV fo K ρ (vo s) x v):RV fo K' ρ' (vo s') x v:=hx.mono h.known h.later
theorem RBlk.mono {vv vv':Nat->Option (Nat×Nat)} {b:Blk} {p:Nat×Nat} (hK : ∀ B o v,K B o=some v->K' B o=some v) (hL:Later ρ ρ' vv vv') (hh:w'.heap[p.1]?=w.heap[p.1]?)
 (hn:(∀ o,K p.1 o=none) -> ∀ o,K' p.1 o=none) (h:RBlk P fo K ρ vv w b p):RBlk P fo K' ρ' vv' w' b p:=by
 cases h with
 | rows ver ro esz els B size c t h1 h2 h3 h4 h5 h6 =>
   exact .rows ver ro esz els B size c t (hh.trans h1) h2 h3 h4 (fun i r hi j x hj=>let ⟨v,e1,e2,e3⟩:=h5 i r hi j x hj;⟨v,e1,e2.mono hK hL,e3⟩) (fun hr=>hn (h6 hr))
 | map es B size ents clock h1 h2 h3 h4 =>
   exact .map es B size ents clock (hh.trans h1) h2 (fun i k x hi=>let ⟨e,e1,e2,e3⟩:=h3 i k x hi;⟨e,e1,e2.mono hK,e3.mono hK hL⟩) (hn h4)
 | loop st j env params a b' B size l N h1 h2 h3 h4 h5 h6 h7 h8 h9 h10 =>
   exact .loop st j env params a b' B size l N (hh.trans h1) h2 h3 (fun t x hx=>(h4 t x hx).mono hK hL) h5 h6 h7 h8 h9 (hn h10)
theorem RBlk.lt {vv:Nat->Option (Nat×Nat)} {b:Blk} {p:Nat×Nat} (h:RBlk P fo K ρ vv w b p):p.1 < w.heap.size:=by
 cases h<;>rename_i h1 _ _ _<;>skip
 all_goals first | exact (Array.getElem?_eq_some_iff.1 ‹w.heap[_]?=some _›).1
theorem a9 {id:Nat} {b:Option Blk} (h:id < s.length):getB (s.set id b) id=b:=by simp [getB,h]
theorem aw {id j:Nat} {b:Option Blk} (h:j≠id):getB (s.set id b) j=getB s j:=by
 simp [getB,Ne.symm h]
theorem a8 {id:Nat} {b:Blk} (h:getB s id=some b):id < s.length:=by
 unfold getB at h
 cases hq:s[id]? with
 | none=>simp [hq] at h
 | some x=>exact (List.getElem?_eq_some_iff.1 hq).1
theorem bz {n id:Nat} : getB (s++List.replicate n none) id=getB s id:=by
 unfold getB
 by_cases h:id < s.length
 · rw [List.getElem?_append_left h]
 · rw [List.getElem?_append_right (by omega),List.getElem?_eq_none (l:=s) (by omega)]
   cases hq:(List.replicate n (none:Option Blk))[id - s.length]? with
   | none=>rfl
   | some x=>have:=List.mem_of_getElem? hq;simp at this;simp [this.2]
theorem ck {n:Nat} : vo (s++List.replicate n none)=vo s:=by
 funext id;simp [vo,bz]
theorem RS.reserve {n:Nat} (h:RS P fo base K ρ s w):RS P fo base K ρ (s++List.replicate n none) w where
 known:=h.known
 blk id b hb:=by rw [bz] at hb;rw [ck];exact h.blk id b hb
 inj i j a b ha hb:=by rw [bz] at ha hb;exact h.inj i j a b ha hb
 base:=h.base
 one:=h.one
theorem Stp.reserve {n:Nat} : Stp base K ρ s w K ρ (s++List.replicate n none) w where
 known _ _ _ h:=h
 later:=by rw [ck];exact .refl
 below := .refl _ _
 frame _ _ _:=rfl
 img id b hb _:=by rw [bz] at hb;exact ⟨id,b,hb,rfl⟩
 learn B o v h h' _:=by rw [h] at h';cases h'
theorem cC {id:Nat} {b:Blk} (h:id < s.length) (j:Nat):vo (s.set id (some b)) j=if j=id then (match b with | .rows v _ e _=>some (v,e) | _=>some (0,0)) else vo s j:=by
 by_cases hj:j=id
 · subst hj;simp only [vo,a9 h,if_true]
   cases b<;>rfl
 · simp only [vo,aw hj,if_neg hj]
def placed (ρ:ax) (id B size:Nat):ax:=fun j=>if j=id then (B,size) else ρ j
theorem Later.new {id:Nat} {b:Blk} {B size:Nat} (h:id < s.length) (hn:getB s id=none):Later ρ (placed ρ id B size) (vo s) (vo (s.set id (some b))):=by
 intro j v e hv
 have hj:j≠id:=by rintro rfl;simp [vo,hn] at hv
 exact ⟨v,by rw [cC h,if_neg hj];exact hv,Nat.le_refl _,fun _=>by simp [placed,hj],fun _=>rfl⟩
theorem RS.new {id size:Nat} {b:Blk} {o:Obj} (h:RS P fo base K ρ s w) (hid:id < s.length) (hn:getB s id=none)
 (hb:RBlk P fo K (placed ρ id w.heap.size size) (vo (s.set id (some b))) (w.alloc o) b (w.heap.size,size)) :
 RS P fo base K (placed ρ id w.heap.size size) (s.set id (some b)) (w.alloc o)/\Stp base K ρ s w K (placed ρ id w.heap.size size) (s.set id (some b)) (w.alloc o):=by
 have hL:Later ρ (placed ρ id w.heap.size size) (vo s) (vo (s.set id (some b))) := .new hid hn
 have hold : ∀ B,B < w.heap.size->(w.alloc o).heap[B]?=w.heap[B]?:=fun B hB=>Below.heap_alloc _ _ _ hB
 refine ⟨⟨fun B o' v hv => ?_,fun j b' hj => ?_,fun i j a b' ha hb' he => ?_,?_,h.one⟩,⟨fun _ _ _ h=>h,hL,(Below.refl _ _).alloc h.base o,fun B hB _=>hold B hB,fun j b' hj hlt => ?_,fun B o v h h' _=>by rw [h] at h';cases h'⟩⟩
 · obtain ⟨c,t,z,h1,h2⟩:=h.known B o' v hv
   exact ⟨c,t,z,(hold B (Array.getElem?_eq_some_iff.1 h1).1).trans h1,h2⟩
 · by_cases hji:j=id
   · subst hji
     rw [a9 hid] at hj
     injection hj with hj;subst hj
     simp only [placed,if_true]
     exact ⟨hb,h.base⟩
   · rw [aw hji] at hj
     obtain ⟨h1,h2⟩:=h.blk j b' hj
     have e:placed ρ id w.heap.size size j=ρ j:=by simp [placed,hji]
     rw [e]
     exact ⟨h1.mono (fun _ _ _ h=>h) hL (hold _ h1.lt) (fun h=>h),h2⟩
 · have key : ∀ k bk,getB (s.set id (some b)) k=some bk->k≠id->(ρ k).1 < w.heap.size/\getB s k=some bk:=fun k bk hk hne=>by
    rw [aw hne] at hk;exact ⟨(h.blk k bk hk).1.lt,hk⟩
   by_cases hi:i=id<;>by_cases hj:j=id
   · rw [hi,hj]
   · have:=key j b' hb' hj;simp [placed,hi,hj] at he;omega
   · have:=key i a ha hi;simp [placed,hi,hj] at he;omega
   · simp [placed,hi,hj] at he
     exact h.inj i j a b' (key i a ha hi).2 (key j b' hb' hj).2 he
 · have:=h.base;simp;omega
 · by_cases hji:j=id
   · simp [placed,hji] at hlt
   · rw [aw hji] at hj
     exact ⟨j,b',hj,by simp [placed,hji]⟩
theorem Later.bump {id v0 v1 e:Nat} {b:Blk} {p:Nat×Nat} (hid:id < s.length) (h0:vo s id=some (v0,e)) (h1:(match b with | .rows v _ e _=>some (v,e) | _=>some (0,0))=some (v1,e)) (hle:v0<=v1)
 (hp:v0=v1->p=ρ id) (he:e=0->v1=v0):Later ρ (fun j=>if j=id then p else ρ j) (vo s) (vo (s.set id (some b))):=by
 intro j v e' hv
 by_cases hj:j=id
 · subst hj
   rw [h0] at hv;injection hv with hv;injection hv with a1 a2;subst a1;subst a2
   exact ⟨v1,by rw [cC hid,if_pos rfl];exact h1,hle,fun h=>by simp [hp h],he⟩
 · exact ⟨v,by rw [cC hid,if_neg hj];exact hv,Nat.le_refl _,fun _=>by simp [hj],fun _=>rfl⟩
theorem RS.write {id v0 v1 e:Nat} {b0 b:Blk} (h:RS P fo base K ρ s w) (hb0:getB s id=some b0) (h0:vo s id=some (v0,e)) (h1:(match b with | .rows v _ e _=>some (v,e) | _=>some (0,0))=some (v1,e)) (hle:v0<=v1) (he:e=0->v1=v0)
 (hfree : ∀ o,K (ρ id).1 o=none) (hbel:Below (ρ id).1 w w') (hoth : ∀ B,B≠(ρ id).1->w'.heap[B]?=w.heap[B]?) (hsz:w'.heap.size=w.heap.size)
 (hb:RBlk P fo K ρ (vo (s.set id (some b))) w' b (ρ id)) :
 RS P fo base K ρ (s.set id (some b)) w'/\Stp base K ρ s w K ρ (s.set id (some b)) w':=by
 have hid:=a8 hb0
 have hL:Later ρ ρ (vo s) (vo (s.set id (some b))):=by
  have:=Later.bump (ρ:=ρ) (p:=ρ id) (b:=b) hid h0 h1 hle (fun _=>rfl) he
  have e2:(fun j=>if j=id then ρ id else ρ j)=ρ:=by funext j;by_cases hj:j=id<;>simp [hj]
  rwa [e2] at this
 refine ⟨⟨fun B o v hv => ?_,fun j b' hj => ?_,fun i j a b' ha hb' he => ?_,by rw [hsz];exact h.base,h.one⟩,⟨fun _ _ _ h=>h,hL,hbel.mono (h.blk id b0 hb0).2,fun B _ hB=>hoth B (Ne.symm (hB id b0 hb0)),fun j b' hj _ => ?_,fun B o v h h' _=>by rw [h] at h';cases h'⟩⟩
 · obtain ⟨c,t,z,e1,e2⟩:=h.known B o v hv
   refine ⟨c,t,z,(hoth B ?_).trans e1,e2⟩
   rintro rfl;rw [hfree o] at hv;cases hv
 · by_cases hji:j=id
   · subst hji
     rw [a9 hid] at hj
     injection hj with hj;subst hj
     exact ⟨hb,(h.blk j b0 hb0).2⟩
   · rw [aw hji] at hj
     obtain ⟨h1,h2⟩:=h.blk j b' hj
     exact ⟨h1.mono (fun _ _ _ h=>h) hL (hoth _ (fun e=>hji (h.inj j id b' b0 hj hb0 e))) (fun h=>h),h2⟩
 · have key : ∀ k bk,getB (s.set id (some b)) k=some bk -> ∃ bk',getB s k=some bk':=fun k bk hk=>by
    by_cases hk':k=id
    · subst hk';exact ⟨b0,hb0⟩
    · rw [aw hk'] at hk;exact ⟨bk,hk⟩
   obtain ⟨_,ha'⟩:=key i a ha
   obtain ⟨_,hb''⟩:=key j b' hb'
   exact h.inj i j _ _ ha' hb'' he
 · by_cases hji:j=id
   · subst hji;exact ⟨j,b0,hb0,rfl⟩
   · rw [aw hji] at hj;exact ⟨j,b',hj,rfl⟩
theorem RS.move {id v0 v1 e size:Nat} {b0 b:Blk} {o:Obj} (h:RS P fo base K ρ s w) (hb0:getB s id=some b0) (h0:vo s id=some (v0,e)) (h1:(match b with | .rows v _ e _=>some (v,e) | _=>some (0,0))=some (v1,e)) (hle:v0 < v1) (he:e≠0)
 (hb:RBlk P fo K (placed ρ id w.heap.size size) (vo (s.set id (some b))) (w.alloc o) b (w.heap.size,size)) :
 RS P fo base K (placed ρ id w.heap.size size) (s.set id (some b)) (w.alloc o)/\Stp base K ρ s w K (placed ρ id w.heap.size size) (s.set id (some b)) (w.alloc o):=by
 have hid:=a8 hb0
 have hL:Later ρ (placed ρ id w.heap.size size) (vo s) (vo (s.set id (some b))) := .bump hid h0 h1 (by omega) (by omega) (fun h=>absurd h he)
 have hold : ∀ B,B < w.heap.size->(w.alloc o).heap[B]?=w.heap[B]?:=fun B hB=>Below.heap_alloc _ _ _ hB
 refine ⟨⟨fun B o' v hv => ?_,fun j b' hj => ?_,fun i j a b' ha hb' he => ?_,?_,h.one⟩,⟨fun _ _ _ h=>h,hL,(Below.refl _ _).alloc h.base o,fun B hB _=>hold B hB,fun j b' hj hlt => ?_,fun B o v h h' _=>by rw [h] at h';cases h'⟩⟩
 · obtain ⟨c,t,z,h1,h2⟩:=h.known B o' v hv
   exact ⟨c,t,z,(hold B (Array.getElem?_eq_some_iff.1 h1).1).trans h1,h2⟩
 · by_cases hji:j=id
   · subst hji
     rw [a9 hid] at hj
     injection hj with hj;subst hj
     simp only [placed,if_true]
     exact ⟨hb,h.base⟩
   · rw [aw hji] at hj
     obtain ⟨h1,h2⟩:=h.blk j b' hj
     have e:placed ρ id w.heap.size size j=ρ j:=by simp [placed,hji]
     rw [e]
     exact ⟨h1.mono (fun _ _ _ h=>h) hL (hold _ h1.lt) (fun h=>h),h2⟩
 · have key : ∀ k bk,getB (s.set id (some b)) k=some bk->k≠id->(ρ k).1 < w.heap.size/\getB s k=some bk:=fun k bk hk hne=>by
    rw [aw hne] at hk;exact ⟨(h.blk k bk hk).1.lt,hk⟩
   by_cases hi:i=id<;>by_cases hj:j=id
   · rw [hi,hj]
   · have:=key j b' hb' hj;simp [placed,hi,hj] at he;omega
   · have:=key i a ha hi;simp [placed,hi,hj] at he;omega
   · simp [placed,hi,hj] at he
     exact h.inj i j a b' (key i a ha hi).2 (key j b' hb' hj).2 he
 · have:=h.base;simp;omega
 · by_cases hji:j=id
   · simp [placed,hji] at hlt
   · rw [aw hji] at hj
     exact ⟨j,b',hj,by simp [placed,hji]⟩
theorem RS.world (h:RS P fo base K ρ s w) (hh:w'.heap=w.heap):RS P fo base K ρ s w' where
 known B o v hv:=by rw [hh];exact h.known B o v hv
 blk id b hb:=⟨(h.blk id b hb).1.mono (fun _ _ _ h=>h) .refl (by rw [hh]) (fun h=>h),(h.blk id b hb).2⟩
 inj:=h.inj
 base:=by rw [hh];exact h.base
 one:=h.one
theorem Stp.world (hb:Below base w w') (hh:w'.heap=w.heap):Stp base K ρ s w K ρ s w' where
 known _ _ _ h:=h
 later := .refl
 below:=hb
 frame _ _ _:=by rw [hh]
 img id b h _:=⟨id,b,h,rfl⟩
 learn B o v h h' _:=by rw [h] at h';cases h'
theorem RS.kcell (h:RS P fo base K ρ s w) {B o:Nat} {v:Value} (hv:K B o=some v):w.cell? ⟨B,o,none⟩=some v:=by
 obtain ⟨c,t,z,h1,h2⟩:=h.known B o v hv
 simp [World.cell?,h1,h2]
end Go.Proofs.YtncfpmehhfdipaaGreat
namespace Go.Proofs.YtncfpmehhfdipaaGreat
open Go.RowKit
variable {P:Program} {fo:Nat->Option FuncId} {K:aS} {ρ:ax} {vv:Nat->Option (Nat×Nat)} {w:World}
theorem aP {t:TypeId} {n:Nat} (h:sizeT P t=some n) (w:World):(sizeOf t).run P w = .ok n w:=by
 unfold sizeT at h
 cases hi:P.info? t with
 | none=>simp [hi] at h
 | some i=>simp [hi] at h;simp [sizeOf,typeInfo,hi,h]
theorem ku {t:TypeId} {b:Bool} (h:aggT P t=some b) (w:World):(isAgg t).run P w = .ok b w:=by
 unfold aggT at h
 cases hu:P.underlying t with
 | none=>simp [hu] at h
 | some d =>
   simp [hu] at h
   unfold isAgg
   simp only [Sem.run_bind,run_underlying hu,Result.andThen_ok]
   cases d<;>simp_all
theorem dA {t:TypeId} (h:sm P t=true):(∃ k,P.underlying t=some (.int k))/\sizeT P t=some 1:=by
 unfold sm at h
 simp only [Bool.and_eq_true,beq_iff_eq] at h
 refine ⟨?_,h.2⟩
 have:=h.1
 split at this
 · rename_i k hk;exact ⟨k,hk⟩
 · cases this
theorem bQ {t:TypeId} (h:sm P t=true) {cs:Array Value} {i:Nat} {v:Value} (hv:cs[i]?=some v) (w:World):(part t cs i).run P w = .ok v w:=by
 obtain ⟨⟨k,hk⟩,_⟩:=dA h
 unfold part
 have:(isAgg t).run P w = .ok false w:=ku (by simp [aggT,hk]) w
 simp [Sem.run_bind,this,hv]
theorem fp : ∀ {xs ys:List D} {vs ws:List Value} {r:Bool},RDs fo K xs vs->RDs fo K ys ws->dX xs ys=some r ->
 xs.length=ys.length /\ ∃ l:List (IntKind×Int×Int),vs=l.map (fun q => .int q.1 q.2.1)/\ws=l.map (fun q => .int q.1 q.2.2)/\r=l.all (fun q=>q.2.1==q.2.2)
 | _,_,_,_,r,.nil,.nil,h=>by simp [dX] at h;subst h;exact ⟨rfl,[],rfl,rfl,rfl⟩
 | _,_,_,_,r,.nil,.cons _ _ _ _ _ _,h=>by simp [dX] at h
 | _,_,_,_,r,.cons x _ _ _ hx hxs,.nil,h=>by cases x<;>simp [dX] at h
 | _,_,_,_,r,.cons x _ xs _ hx hxs,.cons y _ ys _ hy hys,h=>by
   cases x with
   | int k a =>
     cases y with
     | int k' b =>
       simp only [dX] at h
       split at h
       · rename_i hk
         subst hk
         cases hq:dX xs ys with
         | none=>simp [hq] at h
         | some r' =>
           simp [hq] at h
           obtain ⟨h0,l,e1,e2,e3⟩:=fp hxs hys hq
           cases hx;cases hy
           exact ⟨by simp [h0],(k,a,b)::l,by simp [e1],by simp [e2],by simp [<- h,e3]⟩
       · cases h
     | _=>simp [dX] at h
   | _=>simp [dX] at h
theorem gw (d:Nat) (l:List (IntKind×Int×Int)) (xs ys:Array Value) (hx:xs.toList=l.map (fun q => .int q.1 q.2.1)) (hy:ys.toList=l.map (fun q => .int q.1 q.2.2)) (w:World) :
 ∀ (fs:List Field) (i:Nat),(∀ f j,(f,j)∈fs.zipIdx i->f.name ≠ "_" /\ f.offset=j/\sm P f.type=true)->i+fs.length=l.length ->
   (Op.eqFields (d+1) xs ys fs).run P w = .ok ((l.drop i).all (fun q=>q.2.1==q.2.2)) w
 | [],i,_,hl=>by simp [Op.eqFields,List.drop_eq_nil_of_le (show l.length<=i by simp at hl;omega)]
 | f::fs,i,h,hl=>by
   obtain ⟨h1,h2,h3⟩:=h f i (by simp)
   have hi:i < l.length:=by simp at hl;omega
   have ex:xs[i]?=some (.int l[i].1 l[i].2.1):=by rw [<- Array.getElem?_toList,hx];simp [hi]
   have ey:ys[i]?=some (.int l[i].1 l[i].2.2):=by rw [<- Array.getElem?_toList,hy];simp [hi]
   obtain ⟨⟨k,hk⟩,_⟩:=dA h3
   have ih:=gw d l xs ys hx hy w fs (i+1) (fun g j hj=>h g j (by simp [hj])) (by simp at hl;omega)
   have hq:(Op.equalIn (d+1) f.type (.int l[i].1 l[i].2.1) (.int l[i].1 l[i].2.2)).run P w = .ok (l[i].2.1==l[i].2.2) w:=run_equalIn_int w d f.type _ k _ _ hk
   rw [List.drop_eq_getElem_cons hi]
   simp only [Op.eqFields,ne_eq,h1,not_false_eq_true,if_true,Sem.run_bind,h2,bQ h3 ex w,bQ h3 ey w,Result.andThen_ok,hq,List.all_cons]
   cases hb:(l[i].2.1==l[i].2.2)<;>simp [ih]
theorem jz (d:Nat) (e:TypeId) (he:sm P e=true) (l:List (IntKind×Int×Int)) (xs ys:Array Value)
 (hx:xs.toList=l.map (fun q => .int q.1 q.2.1)) (hy:ys.toList=l.map (fun q => .int q.1 q.2.2)) (w:World) : ∀ (m i:Nat),i+m=l.length ->
 (forIn (List.range' i m 1) ((none,()):Option Bool×Unit) fun i _=>do
  let a<-part e xs i
  let b<-part e ys i
  let r<-Op.equalIn (d+1) e a b
  if (!r)=true then pure (ForInStep.done (some false,())) else pure (ForInStep.yield (none,()))).run P w =
 .ok (if (l.drop i).all (fun q=>q.2.1==q.2.2) then (none,()) else (some false,())) w
 | 0,i,hl=>by simp [List.drop_eq_nil_of_le (show l.length<=i by omega)]
 | m+1,i,hl=>by
   have hi:i < l.length:=by omega
   have ex:xs[i]?=some (.int l[i].1 l[i].2.1):=by rw [<- Array.getElem?_toList,hx];simp [hi]
   have ey:ys[i]?=some (.int l[i].1 l[i].2.2):=by rw [<- Array.getElem?_toList,hy];simp [hi]
   obtain ⟨⟨k,hk⟩,_⟩:=dA he
   have ih:=jz d e he l xs ys hx hy w m (i+1) (by omega)
   have hq:(Op.equalIn (d+1) e (.int l[i].1 l[i].2.1) (.int l[i].1 l[i].2.2)).run P w = .ok (l[i].2.1==l[i].2.2) w:=run_equalIn_int w d e _ k _ _ hk
   rw [List.drop_eq_getElem_cons hi]
   simp only [List.range'_succ,List.forIn_cons,Sem.run_bind,bQ he ex w,bQ he ey w,Result.andThen_ok,hq,List.all_cons]
   rcases Bool.eq_false_or_eq_true (l[i].2.1==l[i].2.2) with hb | hb
   · simp only [hb,Bool.not_true,Bool.false_eq_true,if_false,Sem.run_pure,Result.andThen_ok,Bool.true_and]
     exact ih
   · simp [hb]
theorem py (d:Nat) (t e:TypeId) (n:Nat) (hu:P.underlying t=some (.array n e)) (he:sm P e=true) (l:List (IntKind×Int×Int)) (xs ys:Array Value)
 (hx:xs.toList=l.map (fun q => .int q.1 q.2.1)) (hy:ys.toList=l.map (fun q => .int q.1 q.2.2)) (hl:l.length=n) (w:World) :
 (Op.equalIn (d+2) t (.agg xs) (.agg ys)).run P w = .ok (l.all (fun q=>q.2.1==q.2.2)) w:=by
 obtain ⟨⟨k,hk⟩,hs⟩:=dA he
 have key:=jz d e he l xs ys hx hy w n 0 (by omega)
 rw [Op.equalIn]
 simp only [Sem.run_bind,run_underlying hu,Result.andThen_ok,aP hs,Std.Legacy.Range.forIn_eq_forIn_range',Std.Legacy.Range.size,Nat.mul_one,Nat.sub_zero,Nat.add_one_sub_one,Nat.div_one,List.drop_zero] at key ⊢
 rw [key]
 simp only [Result.andThen_ok]
 generalize l.all (fun q=>q.2.1==q.2.2)=r
 cases r<;>simp
theorem eQ {t:TypeId} {n:Nat} (hc:dG P t = .flat n) {xs ys:List D} {vs ws:Array Value} {r:Bool} (hx:RDs fo K xs vs.toList) (hy:RDs fo K ys ws.toList) (hn:xs.length=n)
 (h:dX xs ys=some r) (w:World):(Op.equal t (.agg vs) (.agg ws)).run P w = .ok r w/\P.eqGuardType P.depth t=false:=by
 obtain ⟨h0,l,e1,e2,e3⟩:=fp hx hy h
 have hl:l.length=n:=by have:=hx.length;rw [e1] at this;simp at this;omega
 unfold dG at hc
 split at hc<;>try (simp at hc;done)
 · rename_i fs hu
   split at hc<;>try (simp at hc;done)
   rename_i hcond
   simp only [Bool.and_eq_true,Bool.not_eq_true',List.all_eq_true] at hcond
   obtain ⟨⟨c1,c2⟩,c3⟩:=hcond
   injection hc with hc
   have hf:P.underlying t=some (.struct (P.fieldsOf t)):=by simp [Program.fieldsOf,hu]
   have hfs:P.fieldsOf t=fs:=by simp [Program.fieldsOf,hu]
   have:=run_equalIn_struct (P:=P) w 9999 t vs ws hf c1
   rw [hfs,gw 9998 l vs ws e1 e2 w fs.toList 0 (fun f j hj=>by have:=c3 (f,j) hj;simp at this;exact ⟨this.1.1,this.1.2,this.2⟩) (by simp;omega)] at this
   simp only [Op.equal,Op.maxDepth]
   rw [this,e3]
   exact ⟨rfl,c2⟩
 · rename_i n' e hu
   split at hc<;>try (simp at hc;done)
   rename_i hcond
   simp only [Bool.and_eq_true,Bool.not_eq_true'] at hcond
   injection hc with hc
   subst hc
   have:=py 9998 t e n' hu hcond.2 l vs ws e1 e2 hl w
   simp only [Op.equal,Op.maxDepth]
   rw [this,e3]
   exact ⟨rfl,hcond.1⟩
section nils
variable {t:TypeId}
theorem tY {e:TypeId} (hu:P.underlying t=some (.slice e)) (a b:Option Addr) (n c m d:Nat) (h:a=none\/b=none) (w:World) :
 (Op.equalIn (9999+1) t (.slice a n c) (.slice b m d)).run P w = .ok (a.isNone==b.isNone) w:=by
 rw [Op.equalIn]
 rcases h with rfl | rfl
 · cases b<;>simp [Sem.run_bind,run_underlying hu]
 · cases a<;>simp [Sem.run_bind,run_underlying hu]
theorem I2 {e:TypeId} (hu:P.underlying t=some (.pointer e)) (a b:Option Addr) (h:a=none\/b=none) (w:World) :
 (Op.equalIn (9999+1) t (.pointer a) (.pointer b)).run P w = .ok (a.isNone==b.isNone) w:=by
 rw [Op.equalIn]
 rcases h with rfl | rfl
 · cases b<;>simp [Sem.run_bind,run_underlying hu]
 · cases a<;>simp [Sem.run_bind,run_underlying hu]
theorem I3 {e e':TypeId} (hu:P.underlying t=some (.map e e')) (a b:Option Nat) (h:a=none\/b=none) (w:World) :
 (Op.equalIn (9999+1) t (.map a) (.map b)).run P w = .ok (a.isNone==b.isNone) w:=by
 rw [Op.equalIn]
 rcases h with rfl | rfl
 · cases b<;>simp [Sem.run_bind,run_underlying hu]
 · cases a<;>simp [Sem.run_bind,run_underlying hu]
def dz:Value->Bool
 | .nilFunc=>true
 | _=>false
theorem wX {p r:Array TypeId} {vr:Bool} (hu:P.underlying t=some (.func p r vr)) (a b:Value) (ha:a = .nilFunc \/ ∃ f x y,a = .func f x y) (hb:b = .nilFunc \/ ∃ f x y,b = .func f x y)
 (h:a = .nilFunc\/b = .nilFunc) (w:World):(Op.equalIn (9999+1) t a b).run P w = .ok (dz a==dz b) w:=by
 rw [Op.equalIn]
 rcases ha with rfl | ⟨f,x,y,rfl⟩<;>rcases hb with rfl | ⟨g,z,u,rfl⟩<;>first | (simp at h;done) | simp [Sem.run_bind,run_underlying hu,dz]
end nils
inductive NilShape (P:Program) (t:TypeId) (b:Bool):Value->Prop
 | slice (e:TypeId) (a:Option Addr) (n c:Nat):P.underlying t=some (.slice e)->b=a.isNone->NilShape P t b (.slice a n c)
 | ptr (e:TypeId) (a:Option Addr):P.underlying t=some (.pointer e)->b=a.isNone->NilShape P t b (.pointer a)
 | map (e e':TypeId) (a:Option Nat):P.underlying t=some (.map e e')->b=a.isNone->NilShape P t b (.map a)
 | func (p r:Array TypeId) (vr:Bool) (v:Value):P.underlying t=some (.func p r vr)->(v = .nilFunc \/ ∃ f x y,v = .func f x y)->b=dz v->NilShape P t b v
theorem eK {t:TypeId} {x:V} {v:Value} {b:Bool} (hx:RV fo K ρ vv x v) (h:d4 (dG P t) x=some b):NilShape P t b v:=by
 unfold dG at h
 split at h<;>try (simp [d4] at h;done)
 · rename_i e hu
   cases hx<;>simp [d4] at h
   · rename_i d hd
     cases hd<;>simp at h<;>subst h<;>exact .ptr e _ hu rfl
   · subst h;exact .ptr e _ hu rfl
 · rename_i e hu
   cases hx with
   | d d v hd =>
     cases hd with
     | slice es B o cap esz vs h0 =>
       cases es with
       | nil=>exact absurd rfl h0
       | cons x xs=>simp [d4] at h;subst h;exact .slice e _ _ _ hu rfl
     | _=>simp [d4] at h
   | nils=>simp [d4] at h;subst h;exact .slice e _ _ _ hu rfl
   | non=>simp [d4] at h;subst h;exact .slice e _ _ _ hu rfl
   | lit es a hd=>simp [d4] at h;subst h;exact .slice e _ _ _ hu rfl
   | ms=>simp [d4] at h;subst h;exact .slice e _ _ _ hu rfl
   | asl=>simp [d4] at h;subst h;exact .slice e _ _ _ hu rfl
   | _=>simp [d4] at h
 · rename_i e e' hu
   cases hx<;>simp [d4] at h
   · rename_i d hd
     cases hd<;>simp at h
     subst h;exact .map e e' _ hu rfl
   · subst h;exact .map e e' _ hu rfl
 · rename_i p r vr hu
   cases hx<;>simp [d4] at h
   · rename_i d hd
     cases hd<;>simp at h<;>subst h
     · exact .func p r vr _ hu (.inl rfl) rfl
     · exact .func p r vr _ hu (.inr ⟨_,_,_,rfl⟩) rfl
   · subst h;exact .func p r vr _ hu (.inr ⟨_,_,_,rfl⟩) rfl
 all_goals (split at h<;>simp [d4] at h)
def refV:Value->Bool
 | .int _ _ | .string _ | .float _ _ | .complex _ _ _=>false
 | _=>true
theorem NilShape.refV {t:TypeId} {b:Bool} {v:Value} (h:NilShape P t b v):refV v=true:=by
 cases h with
 | func p r vr v hu hv he=>rcases hv with rfl | ⟨_,_,_,rfl⟩<;>rfl
 | _=>rfl
theorem vH {t:TypeId} {x y:V} {v:Value} {b:Bool} (hx:RV fo K ρ vv x v) (h:vI (dG P t) x y=some b):refV v=true:=by
 unfold vI at h
 split at h
 · rename_i h1 h2;exact (eK hx h1).refV
 · rename_i h1 h2;exact (eK hx h1).refV
 · cases h
theorem pd {t:TypeId} {x y:V} {v u:Value} {b:Bool} (hx:RV fo K ρ vv x v) (hy:RV fo K ρ vv y u) (h:vI (dG P t) x y=some b) (w:World) :
 (Op.equal t v u).run P w = .ok b w/\(∀ xs ys,¬ (v = .agg xs/\u = .agg ys))/\¬ (v = .nilIface/\u = .nilIface):=by
 have key : ∀ a c,d4 (dG P t) x=some a->d4 (dG P t) y=some c->(a=true\/c=true)->(Op.equalIn (9999+1) t v u).run P w = .ok (a==c) w/\(∀ xs ys,¬ (v = .agg xs/\u = .agg ys))/\¬ (v = .nilIface/\u = .nilIface):=by
  intro a c ha hc hor
  have sa:=eK hx ha
  have sc:=eK hy hc
  cases sa with
  | slice e a' n cc hu he =>
    cases sc with
    | slice e' b' m d hu' he' =>
      subst he;subst he'
      exact ⟨tY hu a' b' n cc m d (by simpa using hor) w,by simp,by simp⟩
    | _=>simp_all
  | ptr e a' hu he =>
    cases sc with
    | ptr e' b' hu' he' =>
      subst he;subst he'
      exact ⟨I2 hu a' b' (by simpa using hor) w,by simp,by simp⟩
    | _=>simp_all
  | map e e2 a' hu he =>
    cases sc with
    | map e' e2' b' hu' he' =>
      subst he;subst he'
      exact ⟨I3 hu a' b' (by simpa using hor) w,by simp,by simp⟩
    | _=>simp_all
  | func p r vr v hu hv he =>
    cases sc with
    | func p' r' vr' u hu' hu2 he' =>
      refine ⟨?_,?_,?_⟩
      · rw [wX hu v u hv hu2 ?_ w,he,he']
        rcases hor with h | h
        · left;rcases hv with rfl | ⟨_,_,_,rfl⟩<;>simp_all [dz]
        · right;rcases hu2 with rfl | ⟨_,_,_,rfl⟩<;>simp_all [dz]
      · rintro xs ys ⟨rfl,_⟩;rcases hv with h | ⟨_,_,_,h⟩<;>cases h
      · rintro ⟨rfl,_⟩;rcases hv with h | ⟨_,_,_,h⟩<;>cases h
    | _=>simp_all
 unfold vI at h
 split at h
 · rename_i h1 h2
   injection h with h;subst h
   have:=key _ _ h1 h2 (.inl rfl)
   simpa [Op.equal,Op.maxDepth] using this
 · rename_i h1 h2
   injection h with h;subst h
   have:=key _ _ h1 h2 (.inr rfl)
   simpa [Op.equal,Op.maxDepth] using this
 · cases h
end Go.Proofs.YtncfpmehhfdipaaGreat
