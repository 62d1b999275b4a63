/- How a value of the small machine stands to one of the model, and a store to a world. -/
import Derived.RangeFuncLeaves
import Derived.RangeFuncRecord
import Derived.OrdersIn
import Derived.Below
import Derived.Test.YtboekhenldifhaaGreatZvComp
namespace Go.Proofs.YtboekhenldifhaaGreat
open Go.RowKit

/-- What is known of memory for good. -/
abbrev Known := Nat → Nat → Option Value
/-- The blocks' places: block and size. -/
abbrev Places := Nat → Nat × Nat

section
variable (fo : Nat → Option FuncId) (K : Known)
mutual
inductive RD : D → Value → Prop
  | bool (b : Bool) : RD (.bool b) (.bool b)
  | int (k : IntKind) (n : Int) : RD (.int k n) (.int k n)
  | str (s : ByteArray) : RD (.str s) (.string s)
  | nilp : RD .nilp (.pointer none)
  | nilf : RD .nilf .nilFunc
  | nilm : RD .nilm (.map none)
  | nili : RD .nili .nilIface
  | sliceE (a : Option Addr) (cap : Nat) : (a = none → cap = 0) → RD (.slice []) (.slice a 0 cap)
  | slice (es : List D) (B o cap esz : Nat) (vs : List Value) : es ≠ [] → 0 < esz → (∀ e ∈ es, e.cells.length = esz) → RDs (es.flatMap D.cells) vs →
      (∀ j v, vs[j]? = some v → K B (o + j) = some v) → es.length ≤ cap → RD (.slice es) (.slice (some ⟨B, o, none⟩) es.length cap)
  | iptr (cs : List D) (off B o : Nat) (vs : List Value) : RDs cs vs → (∀ j v, vs[j]? = some v → K B (o + j) = some v) → RD (.iptr cs off) (.pointer (some ⟨B, o + off, none⟩))
  | agg (cs : List D) (vs : Array Value) : RDs cs vs.toList → RD (.agg cs) (.agg vs)
  | tuple (cs : List D) (vs : Array Value) : RDs cs vs.toList → RD (.tuple cs) (.tuple vs)
  | func (f : Nat) (g : FuncId) (a b : List D) (va vb : Array Value) : fo f = some g → RDs a va.toList → RDs b vb.toList → RD (.func f a b) (.func (.func g) va vb)
inductive RDs : List D → List Value → Prop
  | nil : RDs [] []
  | cons (d : D) (v : Value) (ds : List D) (vs : List Value) : RD d v → RDs ds vs → RDs (d :: ds) (v :: vs)
end
end

/-- A block's version and the cells of a row. -/
def vo (s : Store) (id : Nat) : Option (Nat × Nat) := match getB s id with | some (.rows v _ e _) => some (v, e) | some _ => some (0, 0) | none => none

section
variable (fo : Nat → Option FuncId) (K : Known) (ρ : Places) (vv : Nat → Option (Nat × Nat))
mutual
inductive RV : V → Value → Prop
  | poison (v : Value) : RV .poison v
  | d (x : D) (v : Value) : RD fo K x v → RV (.d x) v
  | nils : RV .nils (.slice none 0 0)
  | emp (a : Option Addr) : RV .emp (.slice a 0 0)
  | non (a : Addr) (cap : Nat) : RV .non (.slice (some a) 0 cap)
  | lit (es : List D) (a : Addr) : RD fo K (.slice es) (.slice (some a) es.length es.length) → RV (.lit es) (.slice (some a) es.length es.length)
  | ptr (id ver i j v e : Nat) (a : Addr) : vv id = some (v, e) → (v ≤ ver → ver = v ∧ a = ⟨(ρ id).1, i * e + j, none⟩) → RV (.ptr id ver i j) (.pointer (some a))
  | ms (id ver off len v e : Nat) (a : Addr) (n cap : Nat) : vv id = some (v, e) →
      (v ≤ ver → ver = v ∧ a = ⟨(ρ id).1, off * e, none⟩ ∧ n = len ∧ len ≤ cap ∧ (off + cap) * e ≤ (ρ id).2) → RV (.ms id ver off len) (.slice (some a) n cap)
  | asl (id ver i j len v e : Nat) (a : Addr) (n cap : Nat) : vv id = some (v, e) →
      (v ≤ ver → ver = v ∧ a = ⟨(ρ id).1, i * e + j, none⟩ ∧ n = len ∧ len ≤ cap) → RV (.asl id ver i j len) (.slice (some a) n cap)
  | agg (cs : List V) (vs : Array Value) : RVs cs vs.toList → RV (.agg cs) (.agg vs)
  | tuple (cs : List V) (vs : Array Value) : RVs cs vs.toList → RV (.tuple cs) (.tuple vs)
  | func (f : Nat) (g : FuncId) (a b : List V) (va vb : Array Value) : fo f = some g → RVs a va.toList → RVs b vb.toList → RV (.func f a b) (.func (.func g) va vb)
  | map (id v : Nat) : vv id = some (v, 0) → RV (.map id) (.map (some (ρ id).1))
  | yield (id v : Nat) : vv id = some (v, 0) → RV (.yield id) (.func (.yield (ρ id).1) #[] #[])
inductive RVs : List V → List Value → Prop
  | nil : RVs [] []
  | cons (x : V) (v : Value) (xs : List V) (vs : List Value) : RV x v → RVs xs vs → RVs (x :: xs) (v :: vs)
end
end

/-! ### They stand as memory grows -/
section
variable {fo : Nat → Option FuncId} {K K' : Known}
mutual
theorem RD.mono (hK : ∀ B o v, K B o = some v → K' B o = some v) : ∀ {d v}, RD fo K d v → RD fo K' d v
  | _, _, .bool b => .bool b
  | _, _, .int k n => .int k n
  | _, _, .str s => .str s
  | _, _, .nilp => .nilp
  | _, _, .nilf => .nilf
  | _, _, .nilm => .nilm
  | _, _, .nili => .nili
  | _, _, .sliceE a c h => .sliceE a c h
  | _, _, .slice es B o cap esz vs h0 h1 h2 h3 h4 h5 => .slice es B o cap esz vs h0 h1 h2 (RDs.mono hK h3) (fun j v h => hK _ _ _ (h4 j v h)) h5
  | _, _, .iptr cs off B o vs h1 h2 => .iptr cs off B o vs (RDs.mono hK h1) (fun j v h => hK _ _ _ (h2 j v h))
  | _, _, .agg cs vs h => .agg cs vs (RDs.mono hK h)
  | _, _, .tuple cs vs h => .tuple cs vs (RDs.mono hK h)
  | _, _, .func f g a b va vb h h1 h2 => .func f g a b va vb h (RDs.mono hK h1) (RDs.mono hK h2)
theorem RDs.mono (hK : ∀ B o v, K B o = some v → K' B o = some v) : ∀ {d v}, RDs fo K d v → RDs fo K' d v
  | _, _, .nil => .nil
  | _, _, .cons d v ds vs h hs => .cons d v ds vs (RD.mono hK h) (RDs.mono hK hs)
end
variable {ρ ρ' : Places} {vv vv' : Nat → Option (Nat × Nat)}
/-- Blocks stay; their versions grow; where a version stays, so does the place. -/
def Later (ρ ρ' : Places) (vv vv' : Nat → Option (Nat × Nat)) : Prop :=
  ∀ id v e, vv id = some (v, e) → ∃ v', vv' id = some (v', e) ∧ v ≤ v' ∧ (v = v' → ρ' id = ρ id) ∧ (e = 0 → v' = v)
theorem Later.refl : Later ρ ρ vv vv := fun _ v _ h => ⟨v, h, Nat.le_refl _, fun _ => rfl, fun _ => rfl⟩
theorem Later.trans {ρ'' : Places} {vv'' : Nat → Option (Nat × Nat)} (h : Later ρ ρ' vv vv') (h' : Later ρ' ρ'' vv' vv'') : Later ρ ρ'' vv vv'' := by
  intro id v e hv
  obtain ⟨v1, h1, l1, e1, z1⟩ := h id v e hv
  obtain ⟨v2, h2, l2, e2, z2⟩ := h' id v1 e h1
  exact ⟨v2, h2, Nat.le_trans l1 l2, fun heq => by rw [e2 (by omega), e1 (by omega)], fun he => by rw [z2 he, z1 he]⟩
mutual
theorem RV.mono (hK : ∀ B o v, K B o = some v → K' B o = some v) (hL : Later ρ ρ' vv vv') : ∀ {x v}, RV fo K ρ vv x v → RV fo K' ρ' vv' x v
  | _, _, .poison v => .poison v
  | _, _, .d x v h => .d x v (h.mono hK)
  | _, _, .nils => .nils
  | _, _, .emp a => .emp a
  | _, _, .non a c => .non a c
  | _, _, .lit es a h => .lit es a (h.mono hK)
  | _, _, .ptr id ver i j v e a h1 h2 => by
    obtain ⟨v', e1, l1, e2, _⟩ := hL id v e h1
    refine .ptr id ver i j v' e a e1 (fun hle => ?_)
    obtain ⟨r1, r2⟩ := h2 (by omega)
    exact ⟨by omega, by rw [e2 (by omega)]; exact r2⟩
  | _, _, .ms id ver off len v e a n cap h1 h2 => by
    obtain ⟨v', e1, l1, e2, _⟩ := hL id v e h1
    refine .ms id ver off len v' e a n cap e1 (fun hle => ?_)
    obtain ⟨r1, r2, r3, r4, r5⟩ := h2 (by omega)
    rw [e2 (by omega)]
    exact ⟨by omega, r2, r3, r4, r5⟩
  | _, _, .asl id ver i j len v e a n cap h1 h2 => by
    obtain ⟨v', e1, l1, e2, _⟩ := hL id v e h1
    refine .asl id ver i j len v' e a n cap e1 (fun hle => ?_)
    obtain ⟨r1, r2, r3, r4⟩ := h2 (by omega)
    rw [e2 (by omega)]
    exact ⟨by omega, r2, r3, r4⟩
  | _, _, .agg cs vs h => .agg cs vs (RVs.mono hK hL h)
  | _, _, .tuple cs vs h => .tuple cs vs (RVs.mono hK hL h)
  | _, _, .func f g a b va vb h h1 h2 => .func f g a b va vb h (RVs.mono hK hL h1) (RVs.mono hK hL h2)
  | _, _, .map id v h => by
    obtain ⟨v', e1, _, e2, e3⟩ := hL id v 0 h
    rw [← e2 (e3 rfl).symm]
    exact .map id v' e1
  | _, _, .yield id v h => by
    obtain ⟨v', e1, _, e2, e3⟩ := hL id v 0 h
    rw [← e2 (e3 rfl).symm]
    exact .yield id v' e1
theorem RVs.mono (hK : ∀ B o v, K B o = some v → K' B o = some v) (hL : Later ρ ρ' vv vv') : ∀ {x v}, RVs fo K ρ vv x v → RVs fo K' ρ' vv' x v
  | _, _, .nil => .nil
  | _, _, .cons x v xs vs h hs => .cons x v xs vs (RV.mono hK hL h) (RVs.mono hK hL hs)
end

/-! ### Lists -/
theorem RDs.length : ∀ {ds vs}, RDs fo K ds vs → ds.length = vs.length
  | _, _, .nil => rfl
  | _, _, .cons _ _ _ _ _ h => by simp [h.length]
theorem RVs.length : ∀ {xs vs}, RVs fo K ρ vv xs vs → xs.length = vs.length
  | _, _, .nil => rfl
  | _, _, .cons _ _ _ _ _ h => by simp [h.length]
theorem RDs.get : ∀ {ds vs}, RDs fo K ds vs → ∀ {i : Nat} {d}, ds[i]? = some d → ∃ v, vs[i]? = some v ∧ RD fo K d v
  | _, _, .nil, _, _, h => by simp at h
  | _, _, .cons _ v _ _ h hs, i, d, hi => by
    cases i with
    | zero => simp at hi; subst hi; exact ⟨v, by simp, h⟩
    | succ i => simp at hi; simpa using hs.get hi
theorem RVs.get : ∀ {ds vs}, RVs fo K ρ vv ds vs → ∀ {i : Nat} {d}, ds[i]? = some d → ∃ v, vs[i]? = some v ∧ RV fo K ρ vv d v
  | _, _, .nil, _, _, h => by simp at h
  | _, _, .cons _ v _ _ h hs, i, d, hi => by
    cases i with
    | zero => simp at hi; subst hi; exact ⟨v, by simp, h⟩
    | succ i => simp at hi; simpa using hs.get hi
theorem RDs.of_get : ∀ {ds : List D} {vs : List Value}, ds.length = vs.length → (∀ (i : Nat) (d : D) (v : Value), ds[i]? = some d → vs[i]? = some v → RD fo K d v) → RDs fo K ds vs
  | [], [], _, _ => .nil
  | d :: ds, v :: vs, hl, h => .cons d v ds vs (h 0 d v (by simp) (by simp)) (RDs.of_get (by simpa using hl) fun i d v h1 h2 => h (i + 1) d v (by simpa using h1) (by simpa using h2))
  | [], _ :: _, hl, _ => by simp at hl
  | _ :: _, [], hl, _ => by simp at hl
theorem RVs.of_get : ∀ {ds : List V} {vs : List Value}, ds.length = vs.length → (∀ (i : Nat) (d : V) (v : Value), ds[i]? = some d → vs[i]? = some v → RV fo K ρ vv d v) → RVs fo K ρ vv ds vs
  | [], [], _, _ => .nil
  | d :: ds, v :: vs, hl, h => .cons d v ds vs (h 0 d v (by simp) (by simp)) (RVs.of_get (by simpa using hl) fun i d v h1 h2 => h (i + 1) d v (by simpa using h1) (by simpa using h2))
  | [], _ :: _, hl, _ => by simp at hl
  | _ :: _, [], hl, _ => by simp at hl
theorem RDs.append : ∀ {as vs}, RDs fo K as vs → ∀ {bs ws}, RDs fo K bs ws → RDs fo K (as ++ bs) (vs ++ ws)
  | _, _, .nil, _, _, h => h
  | _, _, .cons d v _ _ h hs, _, _, h' => .cons d v _ _ h (hs.append h')
theorem RVs.append : ∀ {as vs}, RVs fo K ρ vv as vs → ∀ {bs ws}, RVs fo K ρ vv bs ws → RVs fo K ρ vv (as ++ bs) (vs ++ ws)
  | _, _, .nil, _, _, h => h
  | _, _, .cons d v _ _ h hs, _, _, h' => .cons d v _ _ h (hs.append h')
theorem RDs.take (n : Nat) {as vs} (h : RDs fo K as vs) : RDs fo K (as.take n) (vs.take n) :=
  .of_get (by simp [h.length]) fun i d v h1 h2 => by
    simp only [List.getElem?_take] at h1 h2
    split at h1 <;> simp_all
    obtain ⟨w, e1, e2⟩ := h.get h1
    rw [h2] at e1; injection e1 with e1; exact e1 ▸ e2
theorem RDs.drop (n : Nat) {as vs} (h : RDs fo K as vs) : RDs fo K (as.drop n) (vs.drop n) :=
  .of_get (by simp [h.length]) fun i d v h1 h2 => by
    simp only [List.getElem?_drop] at h1 h2
    obtain ⟨w, e1, e2⟩ := h.get h1
    rw [h2] at e1; injection e1 with e1; exact e1 ▸ e2
theorem RVs.take (n : Nat) {as vs} (h : RVs fo K ρ vv as vs) : RVs fo K ρ vv (as.take n) (vs.take n) :=
  .of_get (by simp [h.length]) fun i d v h1 h2 => by
    simp only [List.getElem?_take] at h1 h2
    split at h1 <;> simp_all
    obtain ⟨w, e1, e2⟩ := h.get h1
    rw [h2] at e1; injection e1 with e1; exact e1 ▸ e2
theorem RVs.drop (n : Nat) {as vs} (h : RVs fo K ρ vv as vs) : RVs fo K ρ vv (as.drop n) (vs.drop n) :=
  .of_get (by simp [h.length]) fun i d v h1 h2 => by
    simp only [List.getElem?_drop] at h1 h2
    obtain ⟨w, e1, e2⟩ := h.get h1
    rw [h2] at e1; injection e1 with e1; exact e1 ▸ e2
theorem RVs.of_d : ∀ {ds vs}, RDs fo K ds vs → RVs fo K ρ vv (ds.map .d) vs
  | _, _, .nil => .nil
  | _, _, .cons d v _ _ h hs => .cons _ _ _ _ (.d d v h) (RVs.of_d hs)
theorem RVs.asDs : ∀ {xs vs}, RVs fo K ρ vv xs vs → ∀ {ds}, asDs xs = some ds → RDs fo K ds vs
  | _, _, .nil, _, h => by simp [YtboekhenldifhaaGreat.asDs] at h; subst h; exact .nil
  | _, _, .cons x v xs vs h hs, ds, e => by
    cases h with
    | d d v hd =>
      simp only [YtboekhenldifhaaGreat.asDs] at e
      cases hx : YtboekhenldifhaaGreat.asDs xs with
      | none => simp [hx] at e
      | some ds' => simp [hx] at e; subst e; exact .cons d v ds' vs hd (hs.asDs hx)
    | _ => simp [YtboekhenldifhaaGreat.asDs] at e
theorem RV.mkAgg {xs : List V} {vs : Array Value} (h : RVs fo K ρ vv xs vs.toList) : RV fo K ρ vv (mkAgg xs) (.agg vs) := by
  unfold YtboekhenldifhaaGreat.mkAgg
  cases hx : YtboekhenldifhaaGreat.asDs xs with
  | none => exact .agg xs vs h
  | some ds => exact .d _ _ (.agg ds vs (h.asDs hx))
theorem RV.mkTuple {xs : List V} {vs : Array Value} (h : RVs fo K ρ vv xs vs.toList) : RV fo K ρ vv (mkTuple xs) (.tuple vs) := by
  unfold YtboekhenldifhaaGreat.mkTuple
  cases hx : YtboekhenldifhaaGreat.asDs xs with
  | none => exact .tuple xs vs h
  | some ds => exact .d _ _ (.tuple ds vs (h.asDs hx))
theorem RV.mkFunc {f : Nat} {g : FuncId} {a b : List V} {va vb : Array Value} (hf : fo f = some g) (h : RVs fo K ρ vv a va.toList) (h' : RVs fo K ρ vv b vb.toList) : RV fo K ρ vv (mkFunc f a b) (.func (.func g) va vb) := by
  unfold YtboekhenldifhaaGreat.mkFunc
  cases hx : YtboekhenldifhaaGreat.asDs a with
  | none => simp only; exact .func f g a b va vb hf h h'
  | some x => cases hy : YtboekhenldifhaaGreat.asDs b with
    | none => simp only; exact .func f g a b va vb hf h h'
    | some y => exact .d _ _ (.func f g x y va vb hf (h.asDs hx) (h'.asDs hy))
/-- Cells and their values. -/
theorem RD.cells {d : D} {v : Value} (h : RD fo K d v) : RDs fo K d.cells v.cells.toList := by
  cases h <;> first | (simp only [D.cells, Value.cells]; assumption) | (refine .cons _ _ _ _ ?_ .nil; constructor <;> assumption)
theorem RV.cells {x : V} {v : Value} (hp : x ≠ .poison) (h : RV fo K ρ vv x v) : RVs fo K ρ vv x.cells v.cells.toList := by
  cases h with
  | d d v h =>
    simp only [V.cells]
    exact RVs.of_d h.cells
  | poison => exact absurd rfl hp
  | agg cs vs h => simpa only [V.cells, Value.cells] using h
  | _ => refine .cons _ _ _ _ ?_ .nil; constructor <;> assumption
theorem RV.cellV {x : V} {v : Value} (h : RV fo K ρ vv x v) (hs : scalarV x = true) : v.oneCell' = true := by
  cases h <;> first | rfl | (simp [scalarV] at hs; done) | skip
  rename_i d hd
  cases hd <;> first | rfl | (simp [scalarV, scalarD] at hs; done)
end
end Go.Proofs.YtboekhenldifhaaGreat
