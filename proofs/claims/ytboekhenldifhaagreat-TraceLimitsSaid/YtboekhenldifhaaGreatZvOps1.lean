/- The operations that touch no memory: what the small machine answers is what the model answers. -/
import Derived.Laws.StructEq
import Derived.Test.YtboekhenldifhaaGreatZvSim
namespace Go.Proofs.YtboekhenldifhaaGreat
open Go.RowKit

variable {P : Program} {fo : Nat → Option FuncId} {K : Known} {ρ : Places} {vv : Nat → Option (Nat × Nat)} {w : World}

theorem run_sizeT {t : TypeId} {n : Nat} (h : sizeT P t = some n) (w : World) : (sizeOf t).run P w = .ok n w := by
  unfold sizeT at h
  cases hi : P.info? t with
  | none => simp [hi] at h
  | some i => simp [hi] at h; simp [sizeOf, typeInfo, hi, h]
theorem run_aggT {t : TypeId} {b : Bool} (h : aggT P t = some b) (w : World) : (isAgg t).run P w = .ok b w := by
  unfold aggT at h
  cases hu : P.underlying t with
  | none => simp [hu] at h
  | some d =>
    simp [hu] at h
    unfold isAgg
    simp only [Sem.run_bind, run_underlying hu, Result.andThen_ok]
    cases d <;> simp_all
theorem intT_spec {t : TypeId} (h : intT P t = true) : (∃ k, P.underlying t = some (.int k)) ∧ sizeT P t = some 1 := by
  unfold intT at h
  simp only [Bool.and_eq_true, beq_iff_eq] at h
  refine ⟨?_, h.2⟩
  have := h.1
  split at this
  · rename_i k hk; exact ⟨k, hk⟩
  · cases this
theorem run_part_int {t : TypeId} (h : intT P t = true) {cs : Array Value} {i : Nat} {v : Value} (hv : cs[i]? = some v) (w : World) : (part t cs i).run P w = .ok v w := by
  obtain ⟨⟨k, hk⟩, _⟩ := intT_spec h
  unfold part
  have : (isAgg t).run P w = .ok false w := run_aggT (by simp [aggT, hk]) w
  simp [Sem.run_bind, this, hv]

/-- Rows of whole numbers as the model holds them. -/
theorem eqInts_vals : ∀ {xs ys : List D} {vs ws : List Value} {r : Bool}, RDs fo K xs vs → RDs fo K ys ws → eqInts xs ys = some r →
    xs.length = ys.length ∧ ∃ l : List (IntKind × Int × Int), vs = l.map (fun q => .int q.1 q.2.1) ∧ ws = l.map (fun q => .int q.1 q.2.2) ∧ r = l.all (fun q => q.2.1 == q.2.2)
  | _, _, _, _, r, .nil, .nil, h => by simp [eqInts] at h; subst h; exact ⟨rfl, [], rfl, rfl, rfl⟩
  | _, _, _, _, r, .nil, .cons _ _ _ _ _ _, h => by simp [eqInts] at h
  | _, _, _, _, r, .cons x _ _ _ hx hxs, .nil, h => by cases x <;> simp [eqInts] at h
  | _, _, _, _, r, .cons x _ xs _ hx hxs, .cons y _ ys _ hy hys, h => by
    cases x with
    | int k a =>
      cases y with
      | int k' b =>
        simp only [eqInts] at h
        split at h
        · rename_i hk
          subst hk
          cases hq : eqInts xs ys with
          | none => simp [hq] at h
          | some r' =>
            simp [hq] at h
            obtain ⟨h0, l, e1, e2, e3⟩ := eqInts_vals hxs hys hq
            cases hx; cases hy
            exact ⟨by simp [h0], (k, a, b) :: l, by simp [e1], by simp [e2], by simp [← h, e3]⟩
        · cases h
      | _ => simp [eqInts] at h
    | _ => simp [eqInts] at h

theorem run_eqFields (d : Nat) (l : List (IntKind × Int × Int)) (xs ys : Array Value) (hx : xs.toList = l.map (fun q => .int q.1 q.2.1)) (hy : ys.toList = l.map (fun q => .int q.1 q.2.2)) (w : World) :
    ∀ (fs : List Field) (i : Nat), (∀ f j, (f, j) ∈ fs.zipIdx i → f.name ≠ "_" ∧ f.offset = j ∧ intT P f.type = true) → i + fs.length = l.length →
      (Op.eqFields (d + 1) xs ys fs).run P w = .ok ((l.drop i).all (fun q => q.2.1 == q.2.2)) w
  | [], i, _, hl => by simp [Op.eqFields, List.drop_eq_nil_of_le (show l.length ≤ i by simp at hl; omega)]
  | f :: fs, i, h, hl => by
    obtain ⟨h1, h2, h3⟩ := h f i (by simp)
    have hi : i < l.length := by simp at hl; omega
    have ex : xs[i]? = some (.int l[i].1 l[i].2.1) := by rw [← Array.getElem?_toList, hx]; simp [hi]
    have ey : ys[i]? = some (.int l[i].1 l[i].2.2) := by rw [← Array.getElem?_toList, hy]; simp [hi]
    obtain ⟨⟨k, hk⟩, _⟩ := intT_spec h3
    have ih := run_eqFields d l xs ys hx hy w fs (i + 1) (fun g j hj => h g j (by simp [hj])) (by simp at hl; omega)
    have hq : (Op.equalIn (d + 1) f.type (.int l[i].1 l[i].2.1) (.int l[i].1 l[i].2.2)).run P w = .ok (l[i].2.1 == l[i].2.2) w := run_equalIn_int w d f.type _ k _ _ hk
    rw [List.drop_eq_getElem_cons hi]
    simp only [Op.eqFields, ne_eq, h1, not_false_eq_true, if_true, Sem.run_bind, h2, run_part_int h3 ex w, run_part_int h3 ey w, Result.andThen_ok, hq, List.all_cons]
    cases hb : (l[i].2.1 == l[i].2.2) <;> simp [ih]

theorem run_eqLoop (d : Nat) (e : TypeId) (he : intT P e = true) (l : List (IntKind × Int × Int)) (xs ys : Array Value)
    (hx : xs.toList = l.map (fun q => .int q.1 q.2.1)) (hy : ys.toList = l.map (fun q => .int q.1 q.2.2)) (w : World) : ∀ (m i : Nat), i + m = l.length →
    (forIn (List.range' i m 1) ((none, ()) : Option Bool × Unit) fun i _ => do
      let a ← part e xs i
      let b ← part e ys i
      let r ← Op.equalIn (d + 1) e a b
      if (!r) = true then pure (ForInStep.done (some false, ())) else pure (ForInStep.yield (none, ()))).run P w =
    .ok (if (l.drop i).all (fun q => q.2.1 == q.2.2) then (none, ()) else (some false, ())) w
  | 0, i, hl => by simp [List.drop_eq_nil_of_le (show l.length ≤ i by omega)]
  | m + 1, i, hl => by
    have hi : i < l.length := by omega
    have ex : xs[i]? = some (.int l[i].1 l[i].2.1) := by rw [← Array.getElem?_toList, hx]; simp [hi]
    have ey : ys[i]? = some (.int l[i].1 l[i].2.2) := by rw [← Array.getElem?_toList, hy]; simp [hi]
    obtain ⟨⟨k, hk⟩, _⟩ := intT_spec he
    have ih := run_eqLoop d e he l xs ys hx hy w m (i + 1) (by omega)
    have hq : (Op.equalIn (d + 1) e (.int l[i].1 l[i].2.1) (.int l[i].1 l[i].2.2)).run P w = .ok (l[i].2.1 == l[i].2.2) w := run_equalIn_int w d e _ k _ _ hk
    rw [List.drop_eq_getElem_cons hi]
    simp only [List.range'_succ, List.forIn_cons, Sem.run_bind, run_part_int he ex w, run_part_int he ey w, Result.andThen_ok, hq, List.all_cons]
    rcases Bool.eq_false_or_eq_true (l[i].2.1 == l[i].2.2) with hb | hb
    · simp only [hb, Bool.not_true, Bool.false_eq_true, if_false, Sem.run_pure, Result.andThen_ok, Bool.true_and]
      exact ih
    · simp [hb]
theorem run_equalIn_array (d : Nat) (t e : TypeId) (n : Nat) (hu : P.underlying t = some (.array n e)) (he : intT P e = true) (l : List (IntKind × Int × Int)) (xs ys : Array Value)
    (hx : xs.toList = l.map (fun q => .int q.1 q.2.1)) (hy : ys.toList = l.map (fun q => .int q.1 q.2.2)) (hl : l.length = n) (w : World) :
    (Op.equalIn (d + 2) t (.agg xs) (.agg ys)).run P w = .ok (l.all (fun q => q.2.1 == q.2.2)) w := by
  obtain ⟨⟨k, hk⟩, hs⟩ := intT_spec he
  have key := run_eqLoop d e he l xs ys hx hy w n 0 (by omega)
  rw [Op.equalIn]
  simp only [Sem.run_bind, run_underlying hu, Result.andThen_ok, run_sizeT hs, Std.Legacy.Range.forIn_eq_forIn_range', Std.Legacy.Range.size, Nat.mul_one, Nat.sub_zero, Nat.add_one_sub_one, Nat.div_one, List.drop_zero] at key ⊢
  rw [key]
  simp only [Result.andThen_ok]
  generalize l.all (fun q => q.2.1 == q.2.2) = r
  cases r <;> simp

/-- '==' on two values of a type of whole numbers side by side. -/
theorem run_equal_flat {t : TypeId} {n : Nat} (hc : cmpT P t = .flat n) {xs ys : List D} {vs ws : Array Value} {r : Bool} (hx : RDs fo K xs vs.toList) (hy : RDs fo K ys ws.toList) (hn : xs.length = n)
    (h : eqInts xs ys = some r) (w : World) : (Op.equal t (.agg vs) (.agg ws)).run P w = .ok r w ∧ P.eqGuardType P.depth t = false := by
  obtain ⟨h0, l, e1, e2, e3⟩ := eqInts_vals hx hy h
  have hl : l.length = n := by have := hx.length; rw [e1] at this; simp at this; omega
  unfold cmpT at hc
  split at hc <;> try (simp at hc; done)
  · rename_i fs hu
    split at hc <;> try (simp at hc; done)
    rename_i hcond
    simp only [Bool.and_eq_true, Bool.not_eq_true', List.all_eq_true] at hcond
    obtain ⟨⟨c1, c2⟩, c3⟩ := hcond
    injection hc with hc
    have hf : P.underlying t = some (.struct (P.fieldsOf t)) := by simp [Program.fieldsOf, hu]
    have hfs : P.fieldsOf t = fs := by simp [Program.fieldsOf, hu]
    have := run_equalIn_struct (P := P) w 9999 t vs ws hf c1
    rw [hfs, run_eqFields 9998 l vs ws e1 e2 w fs.toList 0 (fun f j hj => by have := c3 (f, j) hj; simp at this; exact ⟨this.1.1, this.1.2, this.2⟩) (by simp; omega)] at this
    simp only [Op.equal, Op.maxDepth]
    rw [this, e3]
    exact ⟨rfl, c2⟩
  · rename_i n' e hu
    split at hc <;> try (simp at hc; done)
    rename_i hcond
    simp only [Bool.and_eq_true, Bool.not_eq_true'] at hcond
    injection hc with hc
    subst hc
    have := run_equalIn_array 9998 t e n' hu hcond.2 l vs ws e1 e2 hl w
    simp only [Op.equal, Op.maxDepth]
    rw [this, e3]
    exact ⟨rfl, hcond.1⟩

section nils
variable {t : TypeId}
theorem eq_slice {e : TypeId} (hu : P.underlying t = some (.slice e)) (a b : Option Addr) (n c m d : Nat) (h : a = none ∨ b = none) (w : World) :
    (Op.equalIn (9999 + 1) t (.slice a n c) (.slice b m d)).run P w = .ok (a.isNone == b.isNone) w := by
  rw [Op.equalIn]
  rcases h with rfl | rfl
  · cases b <;> simp [Sem.run_bind, run_underlying hu]
  · cases a <;> simp [Sem.run_bind, run_underlying hu]
theorem eq_ptr {e : TypeId} (hu : P.underlying t = some (.pointer e)) (a b : Option Addr) (h : a = none ∨ b = none) (w : World) :
    (Op.equalIn (9999 + 1) t (.pointer a) (.pointer b)).run P w = .ok (a.isNone == b.isNone) w := by
  rw [Op.equalIn]
  rcases h with rfl | rfl
  · cases b <;> simp [Sem.run_bind, run_underlying hu]
  · cases a <;> simp [Sem.run_bind, run_underlying hu]
theorem eq_map {e e' : TypeId} (hu : P.underlying t = some (.map e e')) (a b : Option Nat) (h : a = none ∨ b = none) (w : World) :
    (Op.equalIn (9999 + 1) t (.map a) (.map b)).run P w = .ok (a.isNone == b.isNone) w := by
  rw [Op.equalIn]
  rcases h with rfl | rfl
  · cases b <;> simp [Sem.run_bind, run_underlying hu]
  · cases a <;> simp [Sem.run_bind, run_underlying hu]
def isNilFunc : Value → Bool
  | .nilFunc => true
  | _ => false
theorem eq_func {p r : Array TypeId} {vr : Bool} (hu : P.underlying t = some (.func p r vr)) (a b : Value) (ha : a = .nilFunc ∨ ∃ f x y, a = .func f x y) (hb : b = .nilFunc ∨ ∃ f x y, b = .func f x y)
    (h : a = .nilFunc ∨ b = .nilFunc) (w : World) : (Op.equalIn (9999 + 1) t a b).run P w = .ok (isNilFunc a == isNilFunc b) w := by
  rw [Op.equalIn]
  rcases ha with rfl | ⟨f, x, y, rfl⟩ <;> rcases hb with rfl | ⟨g, z, u, rfl⟩ <;> first | (simp at h; done) | simp [Sem.run_bind, run_underlying hu, isNilFunc]
end nils
/-- What is known of a reference whose being nil can be told. -/
inductive NilShape (P : Program) (t : TypeId) (b : Bool) : Value → Prop
  | slice (e : TypeId) (a : Option Addr) (n c : Nat) : P.underlying t = some (.slice e) → b = a.isNone → NilShape P t b (.slice a n c)
  | ptr (e : TypeId) (a : Option Addr) : P.underlying t = some (.pointer e) → b = a.isNone → NilShape P t b (.pointer a)
  | map (e e' : TypeId) (a : Option Nat) : P.underlying t = some (.map e e') → b = a.isNone → NilShape P t b (.map a)
  | func (p r : Array TypeId) (vr : Bool) (v : Value) : P.underlying t = some (.func p r vr) → (v = .nilFunc ∨ ∃ f x y, v = .func f x y) → b = isNilFunc v → NilShape P t b v
theorem isNil_spec {t : TypeId} {x : V} {v : Value} {b : Bool} (hx : RV fo K ρ vv x v) (h : isNil (cmpT P t) x = some b) : NilShape P t b v := by
  unfold cmpT at h
  split at h <;> try (simp [isNil] at h; done)
  · rename_i e hu
    cases hx <;> simp [isNil] at h
    · rename_i d hd
      cases hd <;> simp at h <;> subst h <;> exact .ptr e _ hu rfl
    · subst h; exact .ptr e _ hu rfl
  · rename_i e hu
    cases hx with
    | d d v hd =>
      cases hd with
      | slice es B o cap esz vs h0 =>
        cases es with
        | nil => exact absurd rfl h0
        | cons x xs => simp [isNil] at h; subst h; exact .slice e _ _ _ hu rfl
      | _ => simp [isNil] at h
    | nils => simp [isNil] at h; subst h; exact .slice e _ _ _ hu rfl
    | non => simp [isNil] at h; subst h; exact .slice e _ _ _ hu rfl
    | lit es a hd => simp [isNil] at h; subst h; exact .slice e _ _ _ hu rfl
    | ms => simp [isNil] at h; subst h; exact .slice e _ _ _ hu rfl
    | asl => simp [isNil] at h; subst h; exact .slice e _ _ _ hu rfl
    | _ => simp [isNil] at h
  · rename_i e e' hu
    cases hx <;> simp [isNil] at h
    · rename_i d hd
      cases hd <;> simp at h
      subst h; exact .map e e' _ hu rfl
    · subst h; exact .map e e' _ hu rfl
  · rename_i p r vr hu
    cases hx <;> simp [isNil] at h
    · rename_i d hd
      cases hd <;> simp at h <;> subst h
      · exact .func p r vr _ hu (.inl rfl) rfl
      · exact .func p r vr _ hu (.inr ⟨_, _, _, rfl⟩) rfl
    · subst h; exact .func p r vr _ hu (.inr ⟨_, _, _, rfl⟩) rfl
  all_goals (split at h <;> simp [isNil] at h)

/-- No number, no string. -/
def refV : Value → Bool
  | .int _ _ | .string _ | .float _ _ | .complex _ _ _ => false
  | _ => true
theorem NilShape.refV {t : TypeId} {b : Bool} {v : Value} (h : NilShape P t b v) : refV v = true := by
  cases h with
  | func p r vr v hu hv he => rcases hv with rfl | ⟨_, _, _, rfl⟩ <;> rfl
  | _ => rfl
theorem nilEq_ref {t : TypeId} {x y : V} {v : Value} {b : Bool} (hx : RV fo K ρ vv x v) (h : nilEq (cmpT P t) x y = some b) : refV v = true := by
  unfold nilEq at h
  split at h
  · rename_i h1 h2; exact (isNil_spec hx h1).refV
  · rename_i h1 h2; exact (isNil_spec hx h1).refV
  · cases h
theorem nilEq_spec {t : TypeId} {x y : V} {v u : Value} {b : Bool} (hx : RV fo K ρ vv x v) (hy : RV fo K ρ vv y u) (h : nilEq (cmpT P t) x y = some b) (w : World) :
    (Op.equal t v u).run P w = .ok b w ∧ (∀ xs ys, ¬ (v = .agg xs ∧ u = .agg ys)) ∧ ¬ (v = .nilIface ∧ u = .nilIface) := by
  have key : ∀ a c, isNil (cmpT P t) x = some a → isNil (cmpT P t) y = some c → (a = true ∨ c = true) → (Op.equalIn (9999 + 1) t v u).run P w = .ok (a == c) w ∧ (∀ xs ys, ¬ (v = .agg xs ∧ u = .agg ys)) ∧ ¬ (v = .nilIface ∧ u = .nilIface) := by
    intro a c ha hc hor
    have sa := isNil_spec hx ha
    have sc := isNil_spec hy hc
    cases sa with
    | slice e a' n cc hu he =>
      cases sc with
      | slice e' b' m d hu' he' =>
        subst he; subst he'
        exact ⟨eq_slice hu a' b' n cc m d (by simpa using hor) w, by simp, by simp⟩
      | _ => simp_all
    | ptr e a' hu he =>
      cases sc with
      | ptr e' b' hu' he' =>
        subst he; subst he'
        exact ⟨eq_ptr hu a' b' (by simpa using hor) w, by simp, by simp⟩
      | _ => simp_all
    | map e e2 a' hu he =>
      cases sc with
      | map e' e2' b' hu' he' =>
        subst he; subst he'
        exact ⟨eq_map hu a' b' (by simpa using hor) w, by simp, by simp⟩
      | _ => simp_all
    | func p r vr v hu hv he =>
      cases sc with
      | func p' r' vr' u hu' hu2 he' =>
        refine ⟨?_, ?_, ?_⟩
        · rw [eq_func hu v u hv hu2 ?_ w, he, he']
          rcases hor with h | h
          · left; rcases hv with rfl | ⟨_, _, _, rfl⟩ <;> simp_all [isNilFunc]
          · right; rcases hu2 with rfl | ⟨_, _, _, rfl⟩ <;> simp_all [isNilFunc]
        · rintro xs ys ⟨rfl, _⟩; rcases hv with h | ⟨_, _, _, h⟩ <;> cases h
        · rintro ⟨rfl, _⟩; rcases hv with h | ⟨_, _, _, h⟩ <;> cases h
      | _ => simp_all
  unfold nilEq at h
  split at h
  · rename_i h1 h2
    injection h with h; subst h
    have := key _ _ h1 h2 (.inl rfl)
    simpa [Op.equal, Op.maxDepth] using this
  · rename_i h1 h2
    injection h with h; subst h
    have := key _ _ h1 h2 (.inr rfl)
    simpa [Op.equal, Op.maxDepth] using this
  · cases h
end Go.Proofs.YtboekhenldifhaaGreat
