/- The machine once more, laid out for evaluation by the kernel: closed parts and small bodies; it is the same machine. -/
import Derived.Test.YtboekhenldifhaaGreatZvTb
set_option linter.unusedSimpArgs false
set_option linter.unusedVariables false
namespace Go.Proofs.YtboekhenldifhaaGreat
noncomputable section
/-! ### References -/
abbrev Acc := List Nat → List Nat
def aNo : Acc := fun l => l
def aOne (id : Nat) : Acc := fun l => id :: l
def aTwo (a b : Acc) : Acc := fun l => a (b l)
def refsA : V → Acc := @V.rec (fun _ => Acc) (fun _ => Acc) aNo (fun _ => aNo) aNo aNo aNo (fun _ => aNo) (fun id _ _ _ => aOne id) (fun id _ _ _ => aOne id) (fun id _ _ _ _ => aOne id) (fun _ r => r) (fun _ r => r) (fun _ _ _ a b => aTwo a b) aOne aOne aNo (fun _ _ a b => aTwo a b)
def refsLA : List V → Acc := @V.rec_1 (fun _ => Acc) (fun _ => Acc) aNo (fun _ => aNo) aNo aNo aNo (fun _ => aNo) (fun id _ _ _ => aOne id) (fun id _ _ _ => aOne id) (fun id _ _ _ _ => aOne id) (fun _ r => r) (fun _ r => r) (fun _ _ _ a b => aTwo a b) aOne aOne aNo (fun _ _ a b => aTwo a b)
mutual
theorem refsA_eq : ∀ x l, refsA x l = refs x ++ l
  | .poison, l | .d _, l | .nils, l | .emp, l | .non, l | .lit _, l | .ptr _ _ _ _, l | .ms _ _ _ _, l | .asl _ _ _ _ _, l | .map _, l | .yield _, l => by simp only [refs]; rfl
  | .agg cs, l => by simp only [refs]; exact refsLA_eq cs l
  | .tuple cs, l => by simp only [refs]; exact refsLA_eq cs l
  | .func _ a b, l => by
    simp only [refs]
    show refsLA a (refsLA b l) = _
    rw [refsLA_eq a, refsLA_eq b, List.append_assoc]
theorem refsLA_eq : ∀ x l, refsLA x l = refsL x ++ l
  | [], l => by simp only [refsL]; rfl
  | x :: xs, l => by
    simp only [refsL]
    show refsA x (refsLA xs l) = _
    rw [refsA_eq x, refsLA_eq xs, List.append_assoc]
end
def refsF (x : V) : List Nat := refsA x []
def refsLF (x : List V) : List Nat := refsLA x []
theorem refsF_eq (x : V) : refsF x = refs x := by rw [refsF, refsA_eq, List.append_nil]
theorem refsLF_eq (x : List V) : refsLF x = refsL x := by rw [refsLF, refsLA_eq, List.append_nil]
def refsEF : List (Nat × V) → List Nat := List.rec [] (fun x _ r => refsA x.2 r)
def refsMF : List (D × V) → List Nat := List.rec [] (fun x _ r => refsA x.2 r)
def refsRF : List (List V) → List Nat := List.rec [] (fun x _ r => refsLA x r)
theorem refsEF_eq : ∀ x, refsEF x = refsE x
  | [] => by simp only [refsE]; rfl
  | (t, x) :: xs => by
    simp only [refsE]; rw [← refsEF_eq xs]
    exact refsA_eq x _
theorem refsMF_eq : ∀ x, refsMF x = refsM x
  | [] => by simp only [refsM]; rfl
  | (t, x) :: xs => by
    simp only [refsM]; rw [← refsMF_eq xs]
    exact refsA_eq x _
theorem refsRF_eq : ∀ x, refsRF x = refsR x
  | [] => by simp only [refsR]; rfl
  | x :: xs => by
    simp only [refsR]; rw [← refsRF_eq xs]
    exact refsLA_eq x _
def refsBF (b : Blk) : List Nat := match b with
  | .rows _ _ _ els => refsRF els
  | .map es => refsMF es
  | .loop _ _ env _ _ _ => refsEF env
theorem refsBF_eq (b : Blk) : refsBF b = refsB b := by cases b <;> simp only [refsBF, refsB, refsRF_eq, refsMF_eq, refsEF_eq]
def reachStep (s : Store) (r : List Nat → List Nat → List Nat) (todo seen : List Nat) : List Nat := match todo with
  | [] => seen
  | i :: todo => bif seen.contains i then r todo seen else match getB s i with
    | some b => r (todo ++ refsBF b) (seen ++ [i])
    | none => r todo seen
def reachF (s : Store) : Nat → List Nat → List Nat → List Nat := Nat.rec (fun _ seen => seen) (fun _ r => reachStep s r)
theorem reachF_eq (s : Store) : ∀ n todo seen, reachF s n todo seen = reach s n todo seen
  | 0, todo, seen => by rw [reach]; rfl
  | n + 1, [], seen => by rw [reach]; rfl; simp
  | n + 1, i :: todo, seen => by
    have ih := reachF_eq s n
    show reachStep s (reachF s n) (i :: todo) seen = _
    rw [reach]
    simp only [reachStep, refsBF_eq]
    cases seen.contains i with
    | true => simp only [cond_true, if_true, ih]
    | false => simp only [cond_false, Bool.false_eq_true, if_false]; cases getB s i <;> simp only [ih]
/-! ### Names -/
def posG : List Nat → Nat → Nat → Option Nat := List.rec (fun _ _ => none) (fun x _ r i n => bif Nat.beq x i then some n else r i (n + 1))
def posF (ids : List Nat) (i : Nat) : Option Nat := posG ids i 0
theorem posG_eq : ∀ (l : List Nat) (i n : Nat), posG l i n = (pos l i).map (· + n)
  | [], i, n => rfl
  | x :: l, i, n => by
    show (bif Nat.beq x i then some n else posG l i (n + 1)) = _
    have hx : (x == i) = Nat.beq x i := by rw [Bool.eq_iff_iff]; simp
    simp only [pos, List.findIdx?_cons, hx]
    cases Nat.beq x i with
    | true => simp
    | false => rw [cond_false, posG_eq l]; simp only [pos, Bool.false_eq_true, if_false, Option.map_map]; congr 1; funext k; simp; omega
theorem posF_eq (l : List Nat) : posF l = pos l := by
  funext i
  rw [posF, posG_eq]
  cases pos l i <;> simp
def renPtr (o : Option Nat) (v i j : Nat) : V := match o with | some k => .ptr k v i j | none => .poison
def renMs (o : Option Nat) (v i j : Nat) : V := match o with | some k => .ms k v i j | none => .poison
def renAsl (o : Option Nat) (v i j l : Nat) : V := match o with | some k => .asl k v i j l | none => .poison
def renMap (o : Option Nat) : V := match o with | some k => .map k | none => .poison
def renYield (o : Option Nat) : V := match o with | some k => .yield k | none => .poison
def renF0 : V → (Nat → Option Nat) → V := @V.rec (fun _ => (Nat → Option Nat) → V) (fun _ => (Nat → Option Nat) → List V) (fun _ => .poison) (fun x _ => .d x) (fun _ => .nils) (fun _ => .emp) (fun _ => .non) (fun es _ => .lit es)
  (fun id v i j m => renPtr (m id) v i j) (fun id v i j m => renMs (m id) v i j) (fun id v i j l m => renAsl (m id) v i j l) (fun _ r m => .agg (r m)) (fun _ r m => .tuple (r m)) (fun f _ _ a b m => .func f (a m) (b m)) (fun id m => renMap (m id)) (fun id m => renYield (m id)) (fun _ => []) (fun _ _ a b m => a m :: b m)
def renLF0 : List V → (Nat → Option Nat) → List V := @V.rec_1 (fun _ => (Nat → Option Nat) → V) (fun _ => (Nat → Option Nat) → List V) (fun _ => .poison) (fun x _ => .d x) (fun _ => .nils) (fun _ => .emp) (fun _ => .non) (fun es _ => .lit es)
  (fun id v i j m => renPtr (m id) v i j) (fun id v i j m => renMs (m id) v i j) (fun id v i j l m => renAsl (m id) v i j l) (fun _ r m => .agg (r m)) (fun _ r m => .tuple (r m)) (fun f _ _ a b m => .func f (a m) (b m)) (fun id m => renMap (m id)) (fun id m => renYield (m id)) (fun _ => []) (fun _ _ a b m => a m :: b m)
mutual
theorem renF0_eq (m : Nat → Option Nat) : ∀ x, renF0 x m = ren m x
  | .poison | .d _ | .nils | .emp | .non | .lit _ | .ptr _ _ _ _ | .ms _ _ _ _ | .asl _ _ _ _ _ | .map _ | .yield _ => by simp only [ren]; rfl
  | .agg cs => by simp only [ren]; rw [← renLF0_eq m cs]; rfl
  | .tuple cs => by simp only [ren]; rw [← renLF0_eq m cs]; rfl
  | .func _ a b => by simp only [ren]; rw [← renLF0_eq m a, ← renLF0_eq m b]; rfl
theorem renLF0_eq (m : Nat → Option Nat) : ∀ x, renLF0 x m = renL m x
  | [] => by simp only [renL]; rfl
  | x :: xs => by simp only [renL]; rw [← renF0_eq m x, ← renLF0_eq m xs]; rfl
end
/-- What has no references stays as it is. -/
def renF (m : Nat → Option Nat) (x : V) : V := match refsF x with | [] => x | _ :: _ => renF0 x m
def renLF (m : Nat → Option Nat) (x : List V) : List V := match refsLF x with | [] => x | _ :: _ => renLF0 x m
theorem renF_eq (m : Nat → Option Nat) (x : V) : renF m x = ren m x := by
  unfold renF
  split
  · rename_i h; rw [refsF_eq] at h; exact (ren_norefs h).symm
  · exact renF0_eq m x
theorem renLF_eq (m : Nat → Option Nat) (x : List V) : renLF m x = renL m x := by
  unfold renLF
  split
  · rename_i h; rw [refsLF_eq] at h; exact (renL_norefs h).symm
  · exact renLF0_eq m x
def renEF (m : Nat → Option Nat) (l : List (Nat × V)) : List (Nat × V) := l.map fun p => (p.1, renF m p.2)
theorem renEF_eq (m : Nat → Option Nat) (l : List (Nat × V)) : renEF m l = renE m l := by simp only [renEF, renE, renF_eq]
theorem renR_norefs {m : Nat → Option Nat} : ∀ {els : List (List V)}, refsR els = [] → els.map (renL m) = els
  | [], _ => rfl
  | x :: xs, h => by
    simp only [refsR, List.append_eq_nil_iff] at h
    simp only [List.map_cons, renL_norefs h.1, renR_norefs h.2]
def renBF (m : Nat → Option Nat) (b : Blk) : Blk := match b with
  | .rows v ro e els => (match refsRF els with | [] => b | _ :: _ => .rows v ro e (els.map (renLF m)))
  | .map es => .map (es.map fun p => (p.1, renF m p.2))
  | .loop st p env ps a c => .loop st p (renEF m env) ps a c
theorem renBF_eq (m : Nat → Option Nat) (b : Blk) : renBF m b = renB m b := by
  cases b with
  | rows v ro e els =>
    simp only [renBF, renB]
    have hf : renLF m = renL m := funext (renLF_eq m)
    split
    · rename_i h; rw [refsRF_eq] at h; rw [renR_norefs h]
    · rw [hf]
  | map es => simp only [renBF, renB, renF_eq]
  | loop st p env ps a c => simp only [renBF, renB, renEF_eq]
def packF (s : Store) (ids : List Nat) (m : Nat → Option Nat) : Store := ids.map fun i => (getB s i).map (renBF m)
theorem packF_eq (s : Store) (ids : List Nat) (m : Nat → Option Nat) : packF s ids m = pack s ids m := by
  have hf : renBF m = renB m := funext (renBF_eq m)
  simp only [packF, pack, hf]
def refsAtF (s : Store) : List Nat → List Nat := List.rec [] (fun i _ r => (match getB s i with | some b => refsBF b | none => []) ++ r)
theorem refsAtF_eq (s : Store) : ∀ l, refsAtF s l = refsAt s l
  | [] => by rw [refsAt]; rfl
  | i :: l => by
    have h : refsAtF s (i :: l) = (match getB s i with | some b => refsBF b | none => []) ++ refsAtF s l := rfl
    rw [refsAt, h, refsAtF_eq s l]
    cases getB s i <;> simp only [refsBF_eq]
def gcIdsF (s : Store) (k : Nat) (roots : List Nat) : List Nat := reachF s 100000 (roots ++ refsAtF s (List.range k)) (List.range k)
theorem gcIdsF_eq (s : Store) (k : Nat) (roots : List Nat) : gcIdsF s k roots = gcIds s k roots := by simp only [gcIdsF, gcIds, refsAtF_eq, reachF_eq, budget]
/-! ### Data -/
def cellsDF (f : V → Option (D × List Nat)) : List V → Option (List D × List Nat) := List.rec (some ([], [])) (fun x _ r => match f x, r with | some (d, a), some (ds, b) => some (d :: ds, a ++ b) | _, _ => none)
theorem cellsDF_eq {f g : V → Option (D × List Nat)} (h : ∀ x, f x = g x) : ∀ l, cellsDF f l = cellsDW g l
  | [] => by rw [cellsDW]; rfl
  | x :: l => by
    rw [cellsDW, ← cellsDF_eq h l, ← h x]
    rfl
def rowsDF (f : V → Option (D × List Nat)) : List (List V) → Option (List D × List Nat) := List.rec (some ([], [])) (fun x _ r => match cellsDF f x, r with | some (c, a), some (ds, b) => some (.ofCells c :: ds, a ++ b) | _, _ => none)
theorem rowsDF_eq {f g : V → Option (D × List Nat)} (h : ∀ x, f x = g x) : ∀ l, rowsDF f l = rowsDW g l
  | [] => by rw [rowsDW]; rfl
  | x :: l => by
    rw [rowsDW, ← rowsDF_eq h l, ← cellsDF_eq h x]
    rfl
abbrev ToD := Store → V → Option (D × List Nat)
def tD (x : D) : ToD → Store → Option (D × List Nat) := fun _ _ => some (x, [])
def tE : ToD → Store → Option (D × List Nat) := fun _ _ => some (.slice [], [])
def tLit (es : List D) : ToD → Store → Option (D × List Nat) := fun _ _ => some (.slice es, [])
def tNone : ToD → Store → Option (D × List Nat) := fun _ _ => none
def tMs (id ver off len : Nat) : ToD → Store → Option (D × List Nat) := fun r s => match getB s id with
  | some (.rows v _ esz els) => if v = ver ∧ 0 < esz ∧ off + len ≤ els.length then (rowsDF (r s) ((els.drop off).take len)).map fun (es, a) => (.slice es, id :: a) else none
  | _ => none
def tAsl (id ver i j len : Nat) : ToD → Store → Option (D × List Nat) := fun r s => match getB s id with
  | some (.rows v _ _ els) => match els[i]? with
    | some cs => if v = ver ∧ j + len ≤ cs.length then (cellsDF (r s) ((cs.drop j).take len)).map fun (es, a) => (.slice es, id :: a) else none
    | none => none
  | _ => none
def tPtr (id ver i j : Nat) : ToD → Store → Option (D × List Nat) := fun r s => match getB s id with
  | some (.rows v _ _ els) => match els[i]? with
    | some cs => if v = ver then (cellsDF (r s) cs).map fun (es, a) => (.iptr es j, id :: a) else none
    | none => none
  | _ => none
def tAgg (cs : List V) : ToD → Store → Option (D × List Nat) := fun r s => (cellsDF (r s) cs).map fun (es, a) => (.agg es, a)
def tTuple (cs : List V) : ToD → Store → Option (D × List Nat) := fun r s => (cellsDF (r s) cs).map fun (es, a) => (.tuple es, a)
def tFunc (f : Nat) (x y : List V) : ToD → Store → Option (D × List Nat) := fun r s => match cellsDF (r s) x, cellsDF (r s) y with | some (a, p), some (b, q) => some (.func f a b, p ++ q) | _, _ => none
def toDStep (v : V) : ToD → Store → Option (D × List Nat) := @V.casesOn (fun _ => ToD → Store → Option (D × List Nat)) v tNone tD tE tE tE tLit tPtr tMs tAsl tAgg tTuple tFunc (fun _ => tNone) (fun _ => tNone)
def toDF : Nat → ToD := Nat.rec (fun _ _ => none) (fun _ r s v => toDStep v r s)
theorem toDF_eq : ∀ n s v, toDF n s v = toD s n v
  | 0, s, v => by rw [toD]; rfl
  | n + 1, s, v => by
    have hc := fun l => cellsDF_eq (f := toDF n s) (g := toD s n) (toDF_eq n s) l
    have hr := fun l => rowsDF_eq (f := toDF n s) (g := toD s n) (toDF_eq n s) l
    show toDStep v (toDF n) s = _
    cases v with
    | poison | d | nils | emp | non | lit | map | yield => simp only [toD]; rfl
    | ptr => simp only [toD, toDStep, tPtr, hc] <;> rfl
    | ms => simp only [toD, toDStep, tMs, hr] <;> rfl
    | asl => simp only [toD, toDStep, tAsl, hc] <;> rfl
    | agg => simp only [toD, toDStep, tAgg, hc] <;> rfl
    | tuple => simp only [toD, toDStep, tTuple, hc] <;> rfl
    | func => simp only [toD, toDStep, tFunc, hc] <;> rfl
def convF (s : Store) : List Bool → List V → Option (List V × List Nat)
  | _, [] => some ([], [])
  | true :: fs, x :: xs => (convF s fs xs).map fun (ys, a) => (x :: ys, a)
  | fs, x :: xs => match toDF 30 s x, convF s (fs.drop 1) xs with
    | some (d, a), some (ys, b) => some (.d d :: ys, a ++ b)
    | _, _ => none
theorem convF_eq (s : Store) : ∀ fl l, convF s fl l = convArgs s fl l
  | _, [] => by rw [convF, convArgs]
  | true :: fs, x :: xs => by rw [convF, convArgs, convF_eq s fs xs]
  | [], x :: xs => by simp only [convF, convArgs, toDF_eq, convF_eq s]; rfl
  | false :: fs, x :: xs => by simp only [convF, convArgs, toDF_eq, convF_eq s]; rfl
end
end Go.Proofs.YtboekhenldifhaaGreat
