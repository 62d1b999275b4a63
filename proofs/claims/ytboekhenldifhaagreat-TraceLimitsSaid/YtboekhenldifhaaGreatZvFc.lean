/- The machine laid out for evaluation: calls, operations, code, functions. -/
import Derived.Test.YtboekhenldifhaaGreatZvFb
set_option linter.unusedSimpArgs false
set_option linter.unusedVariables false
namespace Go.Proofs.YtboekhenldifhaaGreat
noncomputable section
/-! ### Calls -/
def backF (m : Nat → Option Nat) : List Nat → Store → Store → Store
  | i :: ids, b :: bs, s => backF m ids bs (s.set i (b.map (renBF m)))
  | _, _, s => s
theorem backF_eq (m : Nat → Option Nat) : ∀ ids bs s, backF m ids bs s = backB m ids bs s
  | [], bs, s => by simp only [backF, backB]
  | _ :: _, [], s => by simp only [backF, backB]
  | i :: ids, b :: bs, s => by
    have hf : renBF m = renB m := funext (renBF_eq m)
    simp only [backF, backB, backF_eq m ids, hf]
def storeBackF (ids : List Nat) (bs s : Store) (m : Nat → Option Nat) : Store := backF m ids bs s ++ (bs.drop ids.length).map fun b => b.map (renBF m)
theorem storeBackF_eq (ids : List Nat) (bs s : Store) (m : Nat → Option Nat) : storeBackF ids bs s m = storeBack ids bs s m := by
  have hf : renBF m = renB m := funext (renBF_eq m)
  simp only [storeBackF, storeBack, backF_eq, hf]
def callIdsF (call : CallSem) (t : Tgt) (as : List V) (fz ids : List Nat) (s : Store) : Option (V × Store) :=
  if ids.all (fun i => !fz.contains i) then
    match tgtAt (posF ids) t with
    | none => none
    | some t' =>
      match call t' (renLF (posF ids) as) (packF s ids (posF ids)) with
      | none => none
      | some (r, bs) =>
        if ids.length ≤ bs.length ∧ allS (bs.take ids.length) then
          some (renF (backOf ids bs s.length) r, storeBackF ids bs (if lends ids bs r then s else closeB s fz) (backOf ids bs s.length))
        else none
  else none
theorem callIdsF_eq (call : CallSem) (t : Tgt) (as : List V) (fz ids : List Nat) (s : Store) : callIdsF call t as fz ids s = callIds call t as fz ids s := by
  simp only [callIdsF, callIds, posF_eq, renLF_eq, packF_eq, renF_eq, storeBackF_eq]
  rfl
def callOutF (call : CallSem) (t : Tgt) (flags : List Bool) (args : List V) (s : Store) : Option (V × Store) :=
  match convF s flags args with
  | none => none
  | some (as, fz) => callIdsF call t as fz (reachF s 100000 (rootsT t ++ refsLF as) []) s
theorem callOutF_eq (call : CallSem) (t : Tgt) (flags : List Bool) (args : List V) (s : Store) : callOutF call t flags args s = callOut call t flags args s := by
  simp only [callOutF, callOut, convF_eq, callIdsF_eq, reachF_eq, refsLF_eq, budget]
  rfl
/-! ### Operations -/
abbrev OpSem := CallSem → (Nat → List Bool) → Nat → Env → Store → Option (Res × Store)
def pFail : OpSem := fun _ _ _ _ _ => none
def pMv (x : Opd) : OpSem := fun _ _ _ e s => some (.val (ev e x), s)
def pPick (c a b : Opd) : OpSem := fun _ _ _ e s => match ev e c with | .d (.bool t) => some (.val (if t then ev e a else ev e b), s) | _ => none
def pLoad (agg : Bool) (n : Nat) (a : Opd) : OpSem := fun _ _ _ e s => (loadV s agg n (ev e a)).map fun x => (.val x, s)
def pStore (n : Nat) (a x : Opd) : OpSem := fun _ _ _ e s => (storeV s n (ev e a) (ev e x)).map fun s => (.none, s)
def pBin (op : BinOp) (c : Cmp) (x y : Opd) : OpSem := fun _ _ _ e s => (binF op c (ev e x) (ev e y)).map fun x => (.val x, s)
def pConv (k : IntKind) (x : Opd) : OpSem := fun _ _ _ e s => match ev e x with | .d (.int _ n) => some (.val (.d (.int k (wrapF k n))), s) | _ => none
def pFaddr (off : Nat) (x : Opd) : OpSem := fun _ _ _ e s => (faddrV off (ev e x)).map fun x => (.val x, s)
def pIaddrS (esz : Nat) (x i : Opd) : OpSem := fun _ _ _ e s => (iaddrSV s esz (ev e x) (ev e i)).map fun x => (.val x, s)
def pExt (x : Opd) (i : Nat) : OpSem := fun _ _ _ e s => match ev e x with | .d (.tuple vs) => ((vs[i]?).map .d).map fun x => (.val x, s) | .tuple vs => (vs[i]?).map fun x => (.val x, s) | _ => none
def pLen (c : Cmp) (x : Opd) : OpSem := fun _ _ _ e s => if lenK c (ev e x) then ((lenV s (ev e x)).map fun n => intV n).map fun x => (.val x, s) else none
def pNilc (x : Opd) : OpSem := fun _ _ _ e s => (nilcV (ev e x)).map fun x => (.val x, s)
def pUn (op : UnOp) (x : Opd) : OpSem := fun _ _ _ e s => (un op (ev e x)).map fun x => (.val x, s)
def pBuild (z : List V) (parts : List (Nat × Nat × Opd)) : OpSem := fun _ _ _ e s => ((fillCells z (parts.map fun (o, n, x) => (o, n, ev e x))).map mkAgg).map fun x => (.val x, s)
def pAppend (slot esz bytes : Nat) (x y : Opd) : OpSem := fun _ _ base e s => (appendV s (base + slot) esz bytes (ev e x) (ev e y)).map fun (r, s) => (.val r, s)
def pBslice (esz : Nat) (z : List V) (n : Nat) (parts : List (Nat × Opd)) : OpSem := fun _ _ _ e s => match fillRows esz (zeroRows n z) (parts.map fun (i, x) => (i, ev e x)) with
  | some rs => if rs.all (·.all scalarV) then (rowsDF (toDF 30 s) rs).map fun (es, fz) => (.val (.lit es), closeB s fz) else none
  | none => none
def pCall (f : Nat) (args : List Opd) : OpSem := fun call flags _ e s => (callOutF call (.fn f) (flags f) (args.map (ev e)) s).map fun (r, s) => (.val r, s)
def pCallv (f : Opd) (args : List Opd) : OpSem := fun call flags _ e s => match target (ev e f) with
  | some (t, a, b) => (callOutF call t (match t with | .fn f => flags f | .round _ => []) (a ++ args.map (ev e) ++ b) s).map fun (r, s) => (.val r, s)
  | none => none
def pAny (op : VOp) : OpSem := fun call flags base e s => runOp call flags base op e s
def opF (op : VOp) : OpSem := @VOp.casesOn (fun _ => OpSem) op pFail pMv pPick (fun a b => pAny (.alloc a b)) (fun a b => pAny (.box a b)) pBuild pBslice pLoad pStore pNilc pBin pUn pConv (fun a b c d e f => pAny (.mkslice a b c d e f)) (fun a b c d => pAny (.slice a b c d)) (fun a b c d e => pAny (.slarr a b c d e)) pFaddr pIaddrS
  (fun a b c d => pAny (.iaddrA a b c d)) (fun a b => pAny (.index a b)) (fun a b c => pAny (.indexA a b c)) (fun a b c d e => pAny (.lookup a b c d e)) (fun a b c d => pAny (.mapup a b c d)) (fun a => pAny (.mkmap a)) pExt (fun a b c => pAny (.mkfunc a b c)) pCall pCallv pLen pAppend (fun a => pAny (.max a)) (fun a => pAny (.min a)) (fun a b => pAny (.clear a b)) (fun a b c d e => pAny (.mslice a b c d e))
theorem rowsToD (s : Store) (rs : List (List V)) : rowsDF (toDF 30 s) rs = rowsD s depthD rs := rowsDF_eq (fun x => toDF_eq 30 s x) rs
theorem opF_eq (op : VOp) (call : CallSem) (flags : Nat → List Bool) (base : Nat) (e : Env) (s : Store) : opF op call flags base e s = runOp call flags base op e s := by
  cases op with
  | bin op c x y => simp only [opF, pBin, runOp, binF_eq]
  | conv k x => simp only [opF, pConv, runOp, wrapF_eq]; rfl
  | bslice esz z n parts => simp only [opF, pBslice, runOp, rowsToD]; rfl
  | call f args => simp only [opF, pCall, runOp, callOutF_eq]
  | callv f args => simp only [opF, pCallv, runOp, callOutF_eq]; rfl
  | _ => rfl
def operF (o : VOper) (call : CallSem) (flags : Nat → List Bool) (base : Nat) (e : Env) (s : Store) : Option (Env × Store) :=
  match wants o.guard e with
  | none => none
  | some false => some (put e o.dst skipV, s)
  | some true => match opF o.op call flags base e s with
    | some (.val x, s') => some (put e o.dst x, s')
    | some (.none, s') => some (put e o.dst skipV, s')
    | none => none
theorem operF_eq (o : VOper) (call : CallSem) (flags : Nat → List Bool) (base : Nat) (e : Env) (s : Store) : operF o call flags base e s = runOper call flags base o e s := by
  simp only [operF, runOper, opF_eq]; rfl
abbrev OpsSem := CallSem → (Nat → List Bool) → Nat → Env → Store → Option (Env × Store)
def opsNil : OpsSem := fun _ _ _ e s => some (e, s)
def opsCons (o : VOper) (r : OpsSem) : OpsSem := fun call flags base e s => match operF o call flags base e s with | some (e', s') => r call flags base e' s' | none => none
def opsF : List VOper → OpsSem := List.rec opsNil (fun o _ r => opsCons o r)
theorem opsF_eq (call : CallSem) (flags : Nat → List Bool) (base : Nat) : ∀ (l : List VOper) (e : Env) (s : Store), opsF l call flags base e s = runOps call flags base l e s
  | [], e, s => rfl
  | o :: os, e, s => by
    show opsCons o (opsF os) call flags base e s = _
    simp only [opsCons, runOps, operF_eq, opsF_eq call flags base os]; rfl
def lookStep (s : Store) (r : List Nat → List Nat → List Nat) (todo seen : List Nat) : List Nat := match todo with
  | [] => []
  | i :: todo => bif seen.contains i then r todo seen else match getB s i with
    | some b => i :: r (todo ++ refsBF b) (seen ++ [i])
    | none => i :: r todo seen
def lookedF (s : Store) : Nat → List Nat → List Nat → List Nat := Nat.rec (fun _ _ => []) (fun _ r => lookStep s r)
theorem lookedF_eq (s : Store) : ∀ n todo seen, lookedF s n todo seen = looked s n todo seen
  | 0, todo, seen => by rw [looked]; rfl
  | n + 1, [], seen => by rw [looked]; rfl; simp
  | n + 1, i :: todo, seen => by
    have ih := lookedF_eq s n
    show lookStep s (lookedF s n) (i :: todo) seen = _
    rw [looked]
    simp only [lookStep, refsBF_eq]
    cases seen.contains i with
    | true => simp only [cond_true, if_true, ih]
    | false => simp only [cond_false, Bool.false_eq_true, if_false]; cases getB s i <;> simp only [ih]
def footCallF (fine : Bool) (t : Tgt) (flags : List Bool) (args : List V) (s s' : Store) : Foot :=
  match convF s flags args with
  | some (as, fz) =>
    let ids := fz ++ lookedF s 100000 (rootsT t ++ refsLF as) []
    ⟨ids, (bif fine then touched s s' ids else ids) ++ List.range' s.length (s'.length - s.length), s'.length != s.length⟩
  | none => ⟨[], [], false⟩
theorem footCallF_eq (fine : Bool) (t : Tgt) (flags : List Bool) (args : List V) (s s' : Store) : footCallF fine t flags args s s' = footCall fine t flags args s s' := by
  simp only [footCallF, footCall, convF_eq, lookedF_eq, refsLF_eq, budget]; rfl
abbrev FootSem := Bool → (Nat → List Bool) → Nat → Env → Store → Store → Foot
def fNo : FootSem := fun _ _ _ _ _ _ => ⟨[], [], false⟩
def fLoad (_ : Bool) (_ : Nat) (a : Opd) : FootSem := fun _ _ _ e _ _ => ⟨refOf (ev e a), [], false⟩
def fStore (_ : Nat) (a _x : Opd) : FootSem := fun _ _ _ e _ _ => ⟨refOf (ev e a), refOf (ev e a), false⟩
def fCall (f : Nat) (args : List Opd) : FootSem := fun fine flags _ e s s' => footCallF fine (.fn f) (flags f) (args.map (ev e)) s s'
def fCallv (f : Opd) (args : List Opd) : FootSem := fun fine flags _ e s s' => match target (ev e f) with
  | some (t, a, b) => footCallF fine t (match t with | .fn f => flags f | .round _ => []) (a ++ args.map (ev e) ++ b) s s'
  | none => ⟨[], [], false⟩
def fAny (op : VOp) : FootSem := fun fine flags base e s s' => footOp fine flags base op e s s'
def footF (op : VOp) : FootSem := @VOp.casesOn (fun _ => FootSem) op fNo (fun _ => fNo) (fun _ _ _ => fNo) (fun a b => fAny (.alloc a b)) (fun a b => fAny (.box a b)) (fun _ _ => fNo) (fun a b c d => fAny (.bslice a b c d)) fLoad fStore (fun _ => fNo) (fun _ _ _ _ => fNo) (fun _ _ => fNo) (fun _ _ => fNo) (fun a b c d e f => fAny (.mkslice a b c d e f)) (fun a b c d => fAny (.slice a b c d)) (fun a b c d e => fAny (.slarr a b c d e)) (fun _ _ => fNo) (fun a b c => fAny (.iaddrS a b c))
  (fun a b c d => fAny (.iaddrA a b c d)) (fun a b => fAny (.index a b)) (fun a b c => fAny (.indexA a b c)) (fun a b c d e => fAny (.lookup a b c d e)) (fun a b c d => fAny (.mapup a b c d)) (fun a => fAny (.mkmap a)) (fun _ _ => fNo) (fun a b c => fAny (.mkfunc a b c)) fCall fCallv (fun a b => fAny (.len a b)) (fun a b c d e => fAny (.append a b c d e)) (fun a => fAny (.max a)) (fun a => fAny (.min a)) (fun a b => fAny (.clear a b)) (fun a b c d e => fAny (.mslice a b c d e))
theorem footF_eq (op : VOp) (fine : Bool) (flags : Nat → List Bool) (base : Nat) (e : Env) (s s' : Store) : footF op fine flags base e s s' = footOp fine flags base op e s s' := by
  cases op with
  | call f args => simp only [footF, fCall, footOp, footCallF_eq]
  | callv f args => simp only [footF, fCallv, footOp, footCallF_eq]; rfl
  | _ => rfl
def footOperF (o : VOper) (fine : Bool) (flags : Nat → List Bool) (base : Nat) (e : Env) (s s' : Store) : Foot :=
  match wants o.guard e with
  | some true => footF o.op fine flags base e s s'
  | _ => ⟨[], [], false⟩
theorem footOperF_eq (o : VOper) (fine : Bool) (flags : Nat → List Bool) (base : Nat) (e : Env) (s s' : Store) : footOperF o fine flags base e s s' = footOper fine flags base o e s s' := by
  simp only [footOperF, footOper, footF_eq]; rfl
abbrev FeetSem := Bool → CallSem → (Nat → List Bool) → Nat → Env → Store → Option (Env × Store × List Foot)
def feetNil : FeetSem := fun _ _ _ _ e s => some (e, s, [])
def feetCons (o : VOper) (r : FeetSem) : FeetSem := fun fine call flags base e s => match operF o call flags base e s with
  | some (e', s') => (r fine call flags base e' s').map fun (e'', s'', fs) => (e'', s'', footOperF o fine flags base e s s' :: fs)
  | none => none
def feetF : List VOper → FeetSem := List.rec feetNil (fun o _ r => feetCons o r)
theorem feetF_eq (fine : Bool) (call : CallSem) (flags : Nat → List Bool) (base : Nat) : ∀ (l : List VOper) (e : Env) (s : Store), feetF l fine call flags base e s = runOpsF fine call flags base l e s
  | [], e, s => rfl
  | o :: os, e, s => by
    show feetCons o (feetF os) fine call flags base e s = _
    simp only [feetCons, runOpsF, operF_eq, feetF_eq fine call flags base os, footOperF_eq]; rfl
/-! ### Code -/
abbrev CodeSem := CallSem → (Nat → List Bool) → Nat → Nat → Env → Store → Option (Out × Env × Store)
def cSkip : CodeSem := fun _ _ _ _ e s => some (.normal, e, s)
def cRegion (draw : Option (List (Nat × Nat))) (slots : Nat) (ops : List VOper) : CodeSem := fun call flags _ _ e s =>
  match draw with
  | none => (opsF ops call flags s.length e (s ++ List.replicate slots none)).map fun p => (.normal, p.1, p.2)
  | some pairs => match feetF ops false call flags s.length e (s ++ List.replicate slots none) with
    | some (e', s', feet) => if loose feet pairs then some (.normal, e', s') else
      match feetF ops true call flags s.length e (s ++ List.replicate slots none) with
      | some (e', s', feet) => if loose feet pairs then some (.normal, e', s') else none
      | none => none
    | none => none
def cSeq (a b : CodeSem) : CodeSem := fun call flags k fuel e s => match a call flags k fuel e s with
  | some (.normal, e', s') => b call flags k fuel e' s'
  | r => r
def cCond (c : Opd) (a b : CodeSem) : CodeSem := fun call flags k fuel e s => match ev e c with
  | .d (.bool true) => a call flags k fuel e s
  | .d (.bool false) => b call flags k fuel e s
  | _ => none
def cBlock (id : Nat) (a : CodeSem) : CodeSem := fun call flags k fuel e s => match a call flags k fuel e s with
  | some (.exit i, e', s') => if i = id then some (.normal, e', s') else some (.exit i, e', s')
  | r => r
def sweepF (k : Nat) (live : List Nat) (e : Env) (s : Store) : Env × Store :=
  let l := lives e live
  let ids := gcIdsF s k (refsEF l)
  (envOf (renEF (posF ids) l), packF s ids (posF ids))
theorem sweepF_eq (k : Nat) (live : List Nat) (e : Env) (s : Store) : sweepF k live e s = sweep k live e s := by
  simp only [sweepF, sweep, posF_eq, gcIdsF_eq, refsEF_eq, renEF_eq, packF_eq]
def iterStep (a : CodeSem) (live : List Nat) (call : CallSem) (flags : Nat → List Bool) (k fuel : Nat) (r : Env → Store → Option (Out × Env × Store)) (e : Env) (s : Store) : Option (Out × Env × Store) :=
  match sweepF k live e s with
  | (e1, s1) => match a call flags k fuel e1 s1 with
    | some (.normal, e', s') => r e' s'
    | q => q
def cLoop (live : List Nat) (a : CodeSem) : CodeSem := fun call flags k fuel => Nat.rec (fun _ _ => none) (fun _ r => iterStep a live call flags k fuel r) fuel
def cRange (f : Opd) (live params : List Nat) (assign body : VCode) : CodeSem := fun call flags _ _ e s =>
  match target (ev e f) with
  | some (.fn g, a, b) =>
    match callOutF call (.fn g) (flags g) (a ++ [.yield s.length] ++ b) (s ++ [some (.loop 0 .none (lives e live) params assign body)]) with
    | some (_, s2) => match getB s2 s.length with
      | some (.loop st j env' ps' a' b') =>
        if st = 1 then none
        else
          match j with
          | .none => some (.normal, e, setB s2 s.length (.loop 3 j env' ps' a' b'))
          | .exit x => some (.exit x, e, setB s2 s.length (.loop 3 j env' ps' a' b'))
          | .ret => some (.ret, e, setB s2 s.length (.loop 3 j env' ps' a' b'))
      | _ => none
    | none => none
  | _ => none
def cExit (id : Nat) : CodeSem := fun _ _ _ _ e s => some (.exit id, e, s)
def cRet : CodeSem := fun _ _ _ _ e s => some (.ret, e, s)
def cFail : CodeSem := fun _ _ _ _ _ _ => none
def codeF : VCode → CodeSem := @VCode.rec (fun _ => CodeSem) cSkip cRegion (fun _ _ a b => cSeq a b) (fun c _ _ a b => cCond c a b) (fun id _ a => cBlock id a) (fun live _ a => cLoop live a) (fun f live params assign body _ _ => cRange f live params assign body) cExit cRet cFail
theorem codeF_eq (call : CallSem) (flags : Nat → List Bool) (k fuel : Nat) : ∀ (c : VCode) (e : Env) (s : Store), codeF c call flags k fuel e s = runCode call flags k fuel c e s
  | .skip, e, s => rfl
  | .exit _, e, s => rfl
  | .ret, e, s => rfl
  | .fail, e, s => rfl
  | .region draw slots ops, e, s => by
    show cRegion draw slots ops call flags k fuel e s = _
    cases draw with
    | none => simp only [cRegion, runCode, runRegion, opsF_eq]
    | some pairs =>
      simp only [cRegion, runCode, runRegion, feetF_eq]
      cases h1 : runOpsF false call flags s.length ops e (s ++ List.replicate slots none) with
      | none => rfl
      | some y =>
        obtain ⟨e1, s1, f1⟩ := y
        simp only
        split
        · rfl
        · cases h2 : runOpsF true call flags s.length ops e (s ++ List.replicate slots none) with
          | none => rfl
          | some y =>
            obtain ⟨e2, s2, f2⟩ := y
            simp only
            split <;> rfl
  | .seq a b, e, s => by
    show cSeq (codeF a) (codeF b) call flags k fuel e s = _
    simp only [cSeq, runCode, codeF_eq call flags k fuel a, codeF_eq call flags k fuel b]; rfl
  | .cond c a b, e, s => by
    show cCond c (codeF a) (codeF b) call flags k fuel e s = _
    simp only [cCond, runCode, codeF_eq call flags k fuel a, codeF_eq call flags k fuel b]; rfl
  | .block id a, e, s => by
    show cBlock id (codeF a) call flags k fuel e s = _
    simp only [cBlock, runCode, codeF_eq call flags k fuel a]; rfl
  | .rangeFunc f live params assign body, e, s => by
    show cRange f live params assign body call flags k fuel e s = _
    simp only [cRange, runCode, runRange, callOutF_eq]; rfl
  | .loop live a, e, s => by
    show cLoop live (codeF a) call flags k fuel e s = _
    simp only [runCode, cLoop]
    have ih := codeF_eq call flags k fuel a
    suffices ∀ (n : Nat) (e : Env) (s : Store), (Nat.rec (fun _ _ => none) (fun _ r => iterStep (codeF a) live call flags k fuel r) n : Env → Store → Option (Out × Env × Store)) e s = iter (fun e s => let (e1, s1) := sweep k live e s; runCode call flags k fuel a e1 s1) n e s from this fuel e s
    intro n
    induction n with
    | zero => intro e s; rfl
    | succ n ihn =>
      intro e s
      show iterStep (codeF a) live call flags k fuel _ e s = _
      simp only [iterStep, iter, sweepF_eq, ih]
      cases h : runCode call flags k fuel a (sweep k live e s).1 (sweep k live e s).2 with
      | none => rfl
      | some y =>
        obtain ⟨o, e', s'⟩ := y
        cases o with
        | normal => exact ihn e' s'
        | exit i => rfl
        | ret => rfl
/-! ### Functions -/
def leaveF (keep : Bool) (k : Nat) (r : V) (s : Store) : Option (V × Store) :=
  bif keep then some (renF (posF (gcIdsF s k (refsF r))) r, packF s (gcIdsF s k (refsF r)) (posF (gcIdsF s k (refsF r))))
  else match toDF 30 s r with
    | some (d, fz) => some (.d d, packF (closeB s fz) (gcIdsF (closeB s fz) k []) (posF (gcIdsF (closeB s fz) k [])))
    | none => none
theorem leaveF_eq (keep : Bool) (k : Nat) (r : V) (s : Store) : leaveF keep k r s = leave keep k r s := by
  cases keep with
  | true => simp only [leaveF, leave, posF_eq, cond_true, if_true, gcIdsF_eq, renF_eq, packF_eq, refsF_eq]
  | false => simp only [leaveF, leave, posF_eq, cond_false, Bool.false_eq_true, if_false, gcIdsF_eq, packF_eq, toDF_eq]; rfl
def runFnF (p : VProg) (call : CallSem) (fuel : Nat) (fn : VFun) (args : List V) (bs : Store) : Option (V × Store) :=
  match codeF fn.body call (flagsOf p) bs.length fuel (argEnv 0 args) bs with
  | some (.exit _, _, _) => none
  | some (_, e, s) => match results e s fn.res with
    | some rs => leaveF fn.keep bs.length (oneOf rs) s
    | none => none
  | none => none
theorem runFnF_eq (p : VProg) (call : CallSem) (fuel : Nat) (fn : VFun) (args : List V) (bs : Store) : runFnF p call fuel fn args bs = runFn p call fuel fn args bs := by
  simp only [runFnF, runFn, codeF_eq, leaveF_eq]; rfl
def runRoundF (p : VProg) (call : CallSem) (fuel : Nat) (id : Nat) (args : List V) (bs : Store) : Option (V × Store) :=
  match getB bs id with
  | some (.loop 0 _ env params assign body) =>
    if args.length = params.length then
      match codeF assign call (flagsOf p) bs.length fuel ((params.zip args).foldl (fun e (t, a) => upd e t a) (envOf env)) bs with
      | some (.normal, e1, s1) =>
        match getB s1 id with
        | some (.loop 0 j env' ps' a' b') =>
          match codeF body call (flagsOf p) bs.length fuel e1 (setB s1 id (.loop 1 j env' ps' a' b')) with
          | some (out, _, s2) =>
            match getB s2 id with
            | some (.loop _ _ env' ps' a' b') =>
              let (st, j, r) := match out with | .normal => (0, Jump.none, true) | .exit i => (2, Jump.exit i, false) | .ret => (2, Jump.ret, false)
              leaveF true bs.length (.d (.bool r)) (setB s2 id (.loop st j env' ps' a' b'))
            | _ => none
          | none => none
        | _ => none
      | _ => none
    else none
  | _ => none
theorem runRoundF_eq (p : VProg) (call : CallSem) (fuel id : Nat) (args : List V) (bs : Store) : runRoundF p call fuel id args bs = runRound p call fuel id args bs := by
  simp only [runRoundF, runRound, codeF_eq, leaveF_eq]; rfl
def callSF (p : VProg) (call : CallSem) (n : Nat) : CallSem := fun t args bs =>
  match t with
  | .fn f => match p f with
    | none => none
    | some fn =>
      bif fn.split then
        match args, bs with
        | .d (.slice []) :: rest, [] =>
          match runFnF p call n fn (.nils :: rest) [], runFnF p call n fn (.non :: rest) [] with
          | some (x, []), some (y, []) => if bare x && bare y then some (.emp, []) else match norm x, norm y with | .d a, .d b => if beqD a b then some (.d a, []) else none | _, _ => none
          | _, _ => none
        | _, _ => runFnF p call n fn args bs
      else runFnF p call n fn args bs
  | .round id => runRoundF p call n id args bs
theorem callSF_eq (p : VProg) (call : CallSem) (n : Nat) : callSF p call n = callS p call n := by
  funext t args bs
  cases t with
  | round id => simp only [callSF, callS, runRoundF_eq]
  | fn f =>
    simp only [callSF, callS, runFnF_eq]
    cases p f with
    | none => rfl
    | some fn =>
      cases hs : fn.split with
      | true => simp only [hs, cond_true, if_true]; rfl
      | false => simp only [hs, cond_false, Bool.false_eq_true, if_false]
def findF : List Ent → Nat → List V → Store → Option (V × Store) := List.rec (fun _ _ _ => none) (fun e _ r f a b => bif Nat.beq e.f f && (beqVsF e.args a && beqSF e.bs b) then some (e.r, e.bs') else r f a b)
theorem findF_ok {p : VProg} {l : List Ent} (h : Tab p l) : ∃ m0, ∀ f a b x, findF l f a b = some x → ∀ m, m0 ≤ m → callN p m (.fn f) a b = some x := by
  induction h with
  | n => exact ⟨0, fun f a b x h => by cases h⟩
  | @c f' a' b' b2 r' l h1 _ ih =>
    unfold Ret Evt at h1
    obtain ⟨m1, h1⟩ := h1
    obtain ⟨m2, h2⟩ := ih
    refine ⟨max m1 m2, fun f a b x h m hm => ?_⟩
    replace h : (bif Nat.beq f' f && (beqVsF a' a && beqSF b' b) then some (r', b2) else findF l f a b) = some x := h
    cases hq : (Nat.beq f' f && (beqVsF a' a && beqSF b' b)) with
    | false => rw [hq] at h; exact h2 f a b x h m (by omega)
    | true =>
      rw [hq] at h
      simp only [Bool.and_eq_true, Nat.beq_eq] at hq
      obtain ⟨q1, q2, q3⟩ := hq
      rw [← q1, ← beqVsF_ok q2, ← beqSF_ok q3]
      injection h with h
      rw [← h]
      exact h1 m (by omega)
def callFStep (p : VProg) (tab : List Ent) (n : Nat) (r : CallSem) : CallSem := fun t args bs =>
  match t with
  | .fn f => match findF tab f args bs with
    | some r => some r
    | none => callSF p r n (.fn f) args bs
  | .round id => callSF p r n (.round id) args bs
/-- Calls, with a table. -/
def callF (p : VProg) (tab : List Ent) : Nat → CallSem := Nat.rec (fun _ _ _ => none) (fun n r => callFStep p tab n r)
theorem callF_ok {p : VProg} {l : List Ent} (h : Tab p l) : ∃ m0, ∀ n m, m0 + n ≤ m → CallSem.le (callF p l n) (callN p m) := by
  obtain ⟨m0, h0⟩ := findF_ok h
  refine ⟨m0, fun n => ?_⟩
  induction n with
  | zero => intro m _ t a b x hx; cases hx
  | succ n ih =>
    intro m hm t a b x hx
    obtain ⟨m, rfl⟩ : ∃ i, m = i + 1 := ⟨m - 1, by omega⟩
    replace hx : callFStep p l n (callF p l n) t a b = some x := hx
    cases t with
    | round id =>
      simp only [callFStep, callSF_eq] at hx
      rw [callN_succ]
      exact callS_le (ih m (by omega)) (by omega) _ _ _ _ hx
    | fn f =>
      simp only [callFStep, callSF_eq] at hx
      split at hx
      · rename_i r hr
        injection hx with hx; subst hx
        exact h0 _ _ _ _ hr _ (by omega)
      · rw [callN_succ]
        exact callS_le (ih m (by omega)) (by omega) _ _ _ _ hx
def isResF (x : Option (V × Store)) (r : V) (bs : Store) : Bool := match x with | some (y, s) => beqVF r y && beqSF bs s | none => false
/-- A call on top of known ones. -/
theorem tf {p : VProg} {l : List Ent} (h : Tab p l) {n f : Nat} {a : List V} {b b' : Store} {r : V} (hx : isResF (callF p l n (.fn f) a b) r b' = true) : Ret p (.fn f) a b r b' := by
  obtain ⟨m0, h0⟩ := callF_ok h
  unfold isResF at hx
  split at hx
  · rename_i y s he
    simp only [Bool.and_eq_true] at hx
    rw [beqVF_ok hx.1, beqSF_ok hx.2]
    unfold Ret Evt
    exact ⟨m0 + n, fun m hm => h0 n m hm _ _ _ _ he⟩
  · cases hx
end
end Go.Proofs.YtboekhenldifhaaGreat
