/- Maps: a key looked up, an entry written. -/
import Derived.Test.YtboekhenldifhaaGreatZvCall
set_option linter.unusedSimpArgs false
set_option linter.unusedVariables false
namespace Go.Proofs.YtboekhenldifhaaGreat
open Go.RowKit
variable {P : Program} {fo : Nat → Option FuncId} {K : Known} {ρ : Places} {w : World} {tr : FuncId → Option Nat} {base : Nat} {s s' : Store} {vv : Nat → Option (Nat × Nat)}

/-- What types are compared so. -/
theorem cmpT_int {t : TypeId} (h : cmpT P t = .int) : ∃ k, P.underlying t = some (.int k) := by
  unfold cmpT at h
  split at h <;> try (cases h; done)
  · rename_i k hk; exact ⟨k, hk⟩
  all_goals (split at h <;> cases h)
theorem cmpT_str {t : TypeId} (h : cmpT P t = .str) : P.underlying t = some .string := by
  unfold cmpT at h
  split at h <;> try (cases h; done)
  · assumption
  all_goals (split at h <;> cases h)
theorem sameBits_ints (n : Nat) : ∀ (l : List (IntKind × Int × Int)), ((l.map (fun q => Value.int q.1 q.2.1)).zip (l.map (fun q => Value.int q.1 q.2.1))).all (fun (x, y) => Instr.sameBits n x y) = true
  | [] => rfl
  | q :: l => by simp only [List.map_cons, List.zip_cons_cons, List.all_cons, sameBits_ints n l, Bool.and_true]; cases n <;> simp [Instr.sameBits]
theorem eqK_true {c : Cmp} {x y : D} {v u : Value} (hx : RD fo K x v) (hy : RD fo K y u) (h : eqK c x y = some true) : v = u ∧ Instr.sameBits 10000 v u = true := by
  unfold eqK at h
  split at h <;> try (cases h; done)
  · cases hx; cases hy
    split at h <;> try (cases h; done)
    rename_i hk; subst hk
    injection h with h
    simp only [beq_iff_eq] at h
    subst h
    exact ⟨rfl, by simp [Instr.sameBits]⟩
  · cases hx; cases hy
    injection h with h
    have h1 := (MapKept.bytes_beq _ _).1 h
    subst h1
    exact ⟨rfl, by simp [Instr.sameBits, MapKept.bytes_beq]⟩
  · split at h <;> try (cases h; done)
    cases hx with | agg _ vs hvs =>
    cases hy with | agg _ ws hws =>
    obtain ⟨_, l, e1, e2, e3⟩ := eqInts_vals hvs hws h
    have hall : ∀ q ∈ l, q.2.1 = q.2.2 := fun q hq => by have := List.all_eq_true.1 e3.symm q hq; simpa using this
    have : ws.toList = vs.toList := by rw [e1, e2]; exact List.map_congr_left fun q hq => by rw [hall q hq]
    have hw : ws = vs := by cases ws; cases vs; simpa using this
    subst hw
    refine ⟨rfl, ?_⟩
    simp only [Instr.sameBits, beq_self_eq_true, Bool.true_and, e1]
    exact sameBits_ints 9999 l
theorem eqK_equal {t : TypeId} {x y : D} {v u : Value} {b : Bool} (hx : RD fo K x v) (hy : RD fo K y u) (h : eqK (cmpT P t) x y = some b) (hc : ∃ n, cmpT P t = .flat n) (w : World) :
    (Op.equal t v u).run P w = .ok b w := by
  obtain ⟨n, hc⟩ := hc
  rw [hc] at h
  cases x <;> cases y <;> simp only [eqK] at h <;> try (cases h; done)
  split at h <;> try (cases h; done)
  rename_i hn
  cases hx with | agg _ vs hvs =>
  cases hy with | agg _ ws hws =>
  exact (run_equal_flat hc hvs hws hn h w).1
/-- A key that is whole numbers can be looked up. -/
theorem checkFields (d : Nat) (cs : Array Value) (b : Bool) (w : World) : ∀ (fs : List Field) (i : Nat), (∀ f j, (f, j) ∈ fs.zipIdx i → f.name ≠ "_" ∧ f.offset = j ∧ intT P f.type = true) → i + fs.length = cs.size →
    (forIn fs PUnit.unit fun (f : Field) _ => do
      if f.name ≠ "_" then do
        let x ← part f.type cs f.offset
        Instr.checkKey b (d + 1) f.type x
        pure (ForInStep.yield PUnit.unit)
      else pure (ForInStep.yield PUnit.unit)).run P w = .ok PUnit.unit w
  | [], _, _, _ => by simp
  | f :: fs, i, h, hl => by
    obtain ⟨h1, h2, h3⟩ := h f i (by simp)
    have hi : i < cs.size := by simp at hl; omega
    obtain ⟨⟨k, hk⟩, _⟩ := intT_spec h3
    have ih := checkFields d cs b w fs (i + 1) (fun g j hj => h g j (by simp [hj])) (by simp at hl; omega)
    have hq : ∀ x, (Instr.checkKey b (d + 1) f.type x).run P w = .ok () w := fun x => by
      rw [Instr.checkKey]; simp [Sem.run_bind, run_underlying hk, Result.andThen_ok]
    simp only [List.forIn_cons, ne_eq, h1, not_false_eq_true, if_true, Sem.run_bind, h2, run_part_int h3 (Array.getElem?_eq_getElem hi) w, Result.andThen_ok, hq, Sem.run_pure]
    exact ih
theorem checkLoop (d : Nat) (e : TypeId) (he : intT P e = true) (cs : Array Value) (b : Bool) (w : World) : ∀ (m i : Nat), i + m = cs.size →
    (forIn (List.range' i m 1) PUnit.unit fun i _ => do
      let sz ← sizeOf e
      let x ← part e cs (i * sz)
      Instr.checkKey b (d + 1) e x
      pure (ForInStep.yield PUnit.unit)).run P w = .ok PUnit.unit w
  | 0, _, _ => by simp
  | m + 1, i, hl => by
    obtain ⟨⟨k, hk⟩, hs⟩ := intT_spec he
    have hi : i < cs.size := by omega
    have ih := checkLoop d e he cs b w m (i + 1) (by omega)
    have hq : ∀ x, (Instr.checkKey b (d + 1) e x).run P w = .ok () w := fun x => by
      rw [Instr.checkKey]; simp [Sem.run_bind, run_underlying hk, Result.andThen_ok]
    simp only [List.range'_succ, List.forIn_cons, Sem.run_bind, run_sizeT hs, Nat.mul_one, run_part_int he (Array.getElem?_eq_getElem hi) w, Result.andThen_ok, hq, Sem.run_pure]
    exact ih
theorem run_checkKey' {t : TypeId} {k : D} {v : Value} (hk : RD fo K k v) (h : eqSelf (cmpT P t) k = true) (b : Bool) (w : World) : (Instr.checkKey b 10000 t v).run P w = .ok () w := by
  unfold eqSelf at h
  have h : eqK (cmpT P t) k k = some true := by simpa using h
  generalize hc : cmpT P t = c at h
  unfold eqK at h
  split at h <;> try (cases h; done)
  · obtain ⟨q, hu⟩ := cmpT_int hc
    cases hk
    rw [Instr.checkKey]; simp [Sem.run_bind, run_underlying hu, Result.andThen_ok]
  · have hu := cmpT_str hc
    cases hk
    rw [Instr.checkKey]; simp [Sem.run_bind, run_underlying hu, Result.andThen_ok]
  · rename_i n xs ys
    split at h <;> try (cases h; done)
    rename_i hn
    cases hk with | agg _ vs hvs =>
    have hsz : vs.size = n := by rw [← hn, hvs.length]; simp
    unfold cmpT at hc
    split at hc <;> try (simp at hc; done)
    · rename_i fs hu
      split at hc <;> try (simp at hc; done)
      rename_i hcond
      simp only [Bool.and_eq_true, Bool.not_eq_true', List.all_eq_true] at hcond
      obtain ⟨⟨c1, c2⟩, c3⟩ := hcond
      injection hc with hc
      have key := checkFields (P := P) 9998 vs b w fs.toList 0 (fun f j hj => by have := c3 (f, j) hj; simp at this; exact ⟨this.1.1, this.1.2, this.2⟩) (by simp; omega)
      rw [Instr.checkKey]
      simp only [Sem.run_bind, run_underlying hu, Result.andThen_ok, ← Array.forIn_toList] at key ⊢
      simp only [ne_eq] at key ⊢
      exact congrArg (fun r => Result.andThen r (fun _ w' => Sem.run P (pure ()) w')) key
    · rename_i n' e hu
      split at hc <;> try (simp at hc; done)
      rename_i hcond
      simp only [Bool.and_eq_true, Bool.not_eq_true'] at hcond
      injection hc with hc
      subst hc
      have key := checkLoop (P := P) 9998 e hcond.2 vs b w n' 0 (by omega)
      rw [Instr.checkKey]
      simp only [Sem.run_bind, run_underlying hu, Result.andThen_ok, Std.Legacy.Range.forIn_eq_forIn_range', Std.Legacy.Range.size, Nat.sub_zero, Nat.add_one_sub_one, Nat.div_one] at key ⊢
      exact congrArg (fun r => Result.andThen r (fun _ w' => Sem.run P (pure ()) w')) key
/-- Entries that stand to entries. -/
def REs (fo : Nat → Option FuncId) (K : Known) (ρ : Places) (vv : Nat → Option (Nat × Nat)) (es : List (D × V)) (l : List MapEntry) : Prop :=
  es.length = l.length ∧ ∀ (i : Nat) k x, es[i]? = some (k, x) → ∃ e, l[i]? = some e ∧ RD fo K k e.key ∧ RV fo K ρ vv x e.val
theorem REs.tail {p : D × V} {e : MapEntry} {es : List (D × V)} {l : List MapEntry} (h : REs fo K ρ vv (p :: es) (e :: l)) : REs fo K ρ vv es l := ⟨by simpa using h.1, fun i k x hi => by simpa using h.2 (i + 1) k x (by simpa using hi)⟩
theorem REs.head {k : D} {x : V} {e : MapEntry} {es : List (D × V)} {l : List MapEntry} (h : REs fo K ρ vv ((k, x) :: es) (e :: l)) : RD fo K k e.key ∧ RV fo K ρ vv x e.val := by
  obtain ⟨e', h1, h2⟩ := h.2 0 k x (by simp)
  simp at h1; subst h1; exact h2
/-- Found alike. -/
def RF (fo : Nat → Option FuncId) (K : Known) (ρ : Places) (vv : Nat → Option (Nat × Nat)) : Option (Nat × V) → Option (Nat × Value) → Prop
  | none, none => True
  | some (i, x), some (j, u) => i = j ∧ RV fo K ρ vv x u
  | _, _ => False
theorem findNow_ints {c : Cmp} {d : TypeDesc} {k : D} {v : Value} (hk : RD fo K k v) (hn : ∀ x u b, RD fo K x u → eqK c k x = some b → Instr.sameNow d v u = some b) : ∀ {es : List (D × V)} {l : List MapEntry} {i : Nat} {r}, REs fo K ρ vv es l →
    findK c k es i = some r → ∃ a, Instr.findNow d v l i = some a ∧ RF fo K ρ vv r a
  | [], [], i, r, _, h => by simp [findK] at h; subst h; exact ⟨none, rfl, trivial⟩
  | [], _ :: _, _, _, he, _ => by have := he.1; simp at this
  | _ :: _, [], _, _, he, _ => by have := he.1; simp at this
  | (k', x) :: es, e :: l, i, r, he, h => by
    obtain ⟨h1, h2⟩ := he.head
    simp only [findK] at h
    split at h <;> try (cases h; done)
    · rename_i hq
      injection h with h; subst h
      exact ⟨some (i, e.val), by simp [Instr.findNow, hn _ _ _ h1 hq], rfl, h2⟩
    · rename_i hq
      obtain ⟨a, a1, a2⟩ := findNow_ints hk hn he.tail h
      exact ⟨a, by simp [Instr.findNow, hn _ _ _ h1 hq, a1], a2⟩
theorem findAsking_flat {t : TypeId} {k : D} {v : Value} (hk : RD fo K k v) (hc : ∃ n, cmpT P t = .flat n) (w : World) : ∀ {es : List (D × V)} {l : List MapEntry} {i : Nat} {r}, REs fo K ρ vv es l →
    findK (cmpT P t) k es i = some r → ∃ a, (Instr.findAsking t v l i).run P w = .ok a w ∧ RF fo K ρ vv r a
  | [], [], i, r, _, h => by simp [findK] at h; subst h; exact ⟨none, by simp [Instr.findAsking], trivial⟩
  | [], _ :: _, _, _, he, _ => by have := he.1; simp at this
  | _ :: _, [], _, _, he, _ => by have := he.1; simp at this
  | (k', x) :: es, e :: l, i, r, he, h => by
    obtain ⟨h1, h2⟩ := he.head
    simp only [findK] at h
    split at h <;> try (cases h; done)
    · rename_i hq
      injection h with h; subst h
      exact ⟨some (i, e.val), by simp [Instr.findAsking, Sem.run_bind, eqK_equal hk h1 hq hc], rfl, h2⟩
    · rename_i hq
      obtain ⟨a, a1, a2⟩ := findAsking_flat hk hc w he.tail h
      exact ⟨a, by simp [Instr.findAsking, Sem.run_bind, eqK_equal hk h1 hq hc, a1], a2⟩
theorem findKey_spec {t : TypeId} {k : D} {v : Value} {es : List (D × V)} {l : List MapEntry} {r} (hk : RD fo K k v) (he : REs fo K ρ vv es l) (hs : eqSelf (cmpT P t) k = true) (h : findK (cmpT P t) k es 0 = some r) (w : World) :
    ∃ a, (Instr.findKey t v l).run P w = .ok a w ∧ RF fo K ρ vv r a := by
  unfold eqSelf at hs
  have hs : eqK (cmpT P t) k k = some true := by simpa using hs
  have fast : ∀ d, P.underlying t = some d → (∀ x u b, RD fo K x u → eqK (cmpT P t) k x = some b → Instr.sameNow d v u = some b) → ∃ a, (Instr.findKey t v l).run P w = .ok a w ∧ RF fo K ρ vv r a := fun d hd hn => by
    obtain ⟨a, a1, a2⟩ := findNow_ints hk hn he h
    exact ⟨a, by simp [Instr.findKey, Sem.run_bind, run_underlying hd, Result.andThen_ok, a1], a2⟩
  generalize hc : cmpT P t = c at hs fast
  unfold eqK at hs
  split at hs <;> try (cases hs; done)
  · obtain ⟨q, hu⟩ := cmpT_int hc
    refine fast _ hu fun x u b hx hb => ?_
    cases hk
    cases x <;> simp only [eqK] at hb <;> try (cases hb; done)
    cases hx
    simp only [Instr.sameNow]; exact hb
  · have hu := cmpT_str hc
    refine fast _ hu fun x u b hx hb => ?_
    cases hk
    cases x <;> simp only [eqK] at hb <;> try (cases hb; done)
    cases hx
    simp only [Instr.sameNow]; exact hb
  · rename_i n xs ys
    obtain ⟨a, a1, a2⟩ := findAsking_flat hk ⟨n, hc⟩ w he h
    cases hk with | agg _ vs hvs =>
    cases l with
    | nil =>
      cases es with
      | cons p es => have := he.1; simp at this
      | nil =>
        simp [findK] at h; subst h
        unfold cmpT at hc
        have hu : ∃ d, P.underlying t = some d := by
          cases hd : P.underlying t with
          | none => simp [hd] at hc
          | some d => exact ⟨d, rfl⟩
        obtain ⟨d, hu⟩ := hu
        exact ⟨none, by simp [Instr.findKey, Sem.run_bind, run_underlying hu, Result.andThen_ok, Instr.findNow], trivial⟩
    | cons e l =>
      have hu : ∃ d, P.underlying t = some d := by
        unfold cmpT at hc
        cases hd : P.underlying t with
        | none => simp [hd] at hc
        | some d => exact ⟨d, rfl⟩
      obtain ⟨d, hu⟩ := hu
      have hsn : Instr.sameNow d (.agg vs) e.key = none := by unfold Instr.sameNow; split <;> simp_all
      exact ⟨a, by simp [Instr.findKey, Sem.run_bind, run_underlying hu, Result.andThen_ok, Instr.findNow, hsn, a1], a2⟩
theorem findK_get {c : Cmp} {k : D} : ∀ {es : List (D × V)} {i j : Nat} {x : V}, findK c k es i = some (some (j, x)) → i ≤ j ∧ ∃ k', es[j - i]? = some (k', x) ∧ eqK c k k' = some true
  | [], _, _, _, h => by simp [findK] at h
  | (k', y) :: es, i, j, x, h => by
    simp only [findK] at h
    split at h <;> try (cases h; done)
    · rename_i hq
      injection h with h; injection h with h; injection h with h1 h2; subst h1; subst h2
      exact ⟨Nat.le_refl _, k', by simp, hq⟩
    · obtain ⟨h1, k2, h2, h3⟩ := findK_get h
      refine ⟨by omega, k2, ?_, h3⟩
      rw [show j - i = (j - (i + 1)) + 1 by omega]
      simpa using h2
theorem RS.ents {id : Nat} {es : List (D × V)} (hS : RS P fo base K ρ s w) (hb : getB s id = some (.map es)) : ∃ ents clock, w.heap[(ρ id).1]? = some (.map ents clock) ∧ REs fo K ρ (vo s) es ents.toList ∧ ∀ o, K (ρ id).1 o = none := by
  have hB := (hS.blk id _ hb).1
  generalize hp : ρ id = p at hB
  cases hB with
  | map _ B size ents clock h1 h2 h3 h4 => exact ⟨ents, clock, h1, ⟨by simpa using h2, fun i k x hi => by obtain ⟨e, a1, a2⟩ := h3 i k x hi; exact ⟨e, by simpa using a1, a2⟩⟩, h4⟩
theorem RV.map_inv {id : Nat} {v : Value} (h : RV fo K ρ vv (.map id) v) : v = .map (some (ρ id).1) := by cases h; rfl
theorem lookup_spec (htr : ∀ g f, tr g = some f → fo f = some g) {t kt e : TypeId} {i : TypeInfo} {z : Value} {m k r : V} {vm vk : Value} {ok : Bool} (hS : RS P fo base K ρ s w) (hu : P.underlying t = some (.map kt e)) (hi : P.info? e = some i) (hz : i.zero = some z)
    (hm : RV fo K ρ (vo s) m vm) (hk : RV fo K ρ (vo s) k vk) (h : lookupV s (cmpT P kt) (valV tr z) m k ok = some r) : ∃ u, (Instr.lookup t vm vk ok).run P w = .ok u w ∧ RV fo K ρ (vo s) r u := by
  unfold lookupV at h
  split at h <;> try (cases h; done)
  rename_i kd
  split at h <;> try (cases h; done)
  rename_i hself
  cases hk with | d _ _ hk =>
  have hzr : (zeroValue e).run P w = .ok z w := by simp [zeroValue, typeInfo, hi, Sem.run_bind, hz]
  have hzv : RV fo K ρ (vo s) (valV tr z) z := valV_spec htr z
  -- the entries that are looked through
  obtain ⟨es, ents, hes, hru⟩ : ∃ (es : List (D × V)) (ents : Array MapEntry), REs fo K ρ (vo s) es ents.toList ∧
      (match findK (cmpT P kt) kd es 0 with
        | some (some (_, v)) => some (if ok then mkTuple [v, .d (.bool true)] else v)
        | some none => some (if ok then mkTuple [valV tr z, .d (.bool false)] else valV tr z)
        | none => none) = some r ∧
      ∀ a, (Instr.findKey kt vk ents.toList).run P w = .ok a w → (Instr.lookup t vm vk ok).run P w = .ok (match a with
        | some (_, v) => (if ok then Value.tuple #[v, .bool true] else v)
        | none => (if ok then Value.tuple #[z, .bool false] else z)) w := by
    have hck : ∀ b, (Instr.checkKey b 10000 kt vk).run P w = .ok () w := fun b => run_checkKey' hk hself b w
    cases m with
    | d x =>
      cases x with
      | nilm =>
        cases hm with | d _ _ hm =>
        cases hm
        exact ⟨[], #[], ⟨rfl, by simp⟩, h, fun a ha => by cases a <;> simp [Instr.lookup, Sem.run_bind, run_underlying hu, Result.andThen_ok, hck, ha, hzr]⟩
      | _ => simp at h
    | map id =>
      have := hm.map_inv; subst this
      cases hb : getB s id with
      | none => simp [hb] at h
      | some b =>
        cases b with
        | map es =>
          obtain ⟨ents, clock, e1, e2, _⟩ := hS.ents hb
          simp only [hb] at h
          exact ⟨es, ents, e2, h, fun a ha => by cases a <;> simp [Instr.lookup, Sem.run_bind, run_underlying hu, Result.andThen_ok, MapKept.run_getObj_map e1, hck, ha, hzr]⟩
        | _ => simp [hb] at h
    | _ => simp at h
  obtain ⟨h, hrun⟩ := hru
  cases hf : findK (cmpT P kt) kd es 0 with
  | none => simp [hf] at h
  | some q =>
    obtain ⟨a, a1, a2⟩ := findKey_spec hk hes hself hf w
    rw [hrun a a1]
    have fin : ∀ (x : V) (u : Value) (b : Bool), RV fo K ρ (vo s) x u → RV fo K ρ (vo s) (if ok then mkTuple [x, .d (.bool b)] else x) (if ok then Value.tuple #[u, .bool b] else u) := fun x u b hx => by
      cases ok
      · exact hx
      · exact .mkTuple (.cons _ _ _ _ hx (.cons _ _ _ _ (.of_bool b) .nil))
    cases q with
    | none =>
      cases a with
      | some p => cases a2
      | none =>
        rw [hf] at h
        injection h with h; subst h
        exact ⟨_, rfl, fin _ _ _ hzv⟩
    | some q =>
      obtain ⟨j, x⟩ := q
      cases a with
      | none => cases a2
      | some p =>
        obtain ⟨j', u⟩ := p
        rw [hf] at h
        injection h with h; subst h
        exact ⟨_, rfl, fin _ _ _ a2.2⟩
/-- An entry is written. -/
theorem mapup_spec {t kt e : TypeId} {m k x : V} {vm vk vx : Value} (hS : RS P fo base K ρ s w) (hu : P.underlying t = some (.map kt e)) (hm : RV fo K ρ (vo s) m vm) (hk : RV fo K ρ (vo s) k vk) (hx : RV fo K ρ (vo s) x vx)
    (h : mapupV s (cmpT P kt) m k x = some s') : ∃ w', (Instr.mapUpdate t vm vk vx).run P w = .ok () w' ∧ RS P fo base K ρ s' w' ∧ Stp base K ρ s w K ρ s' w' := by
  unfold mapupV at h
  split at h <;> try (cases h; done)
  rename_i id kd
  split at h <;> try (cases h; done)
  rename_i hself
  split at h <;> try (cases h; done)
  rename_i es hb
  have := hm.map_inv; subst this
  cases hk with | d _ _ hk =>
  obtain ⟨ents, clock, e1, e2, e3⟩ := hS.ents hb
  have hv0 : vo s id = some (0, 0) := by simp [vo, hb]
  -- the heap with a new row of entries
  have put : ∀ (es' : List (D × V)) (ents' : Array MapEntry) (clock' : Nat), REs fo K ρ (vo s) es' ents'.toList →
      RS P fo base K ρ (setB s id (.map es')) { w with heap := w.heap.setIfInBounds (ρ id).1 (.map ents' clock') } ∧ Stp base K ρ s w K ρ (setB s id (.map es')) { w with heap := w.heap.setIfInBounds (ρ id).1 (.map ents' clock') } := fun es' ents' clock' he => by
    obtain ⟨g1, g2⟩ := MapKept.heap_set (o' := .map ents' clock') e1
    have hv : vo (s.set id (some (.map es'))) = vo s := by
      funext j
      rw [vo_set (getB_lt hb)]
      split
      · rename_i hj; subst hj; exact hv0.symm
      · rfl
    refine hS.write (v1 := 0) hb hv0 rfl (Nat.le_refl _) (fun _ => rfl) e3 ?_ (fun B hB => g2 B hB) (by simp) ?_
    · exact ⟨rfl, rfl, rfl, by simp, fun k hk => g2 k (by omega)⟩
    · rw [hv]
      cases hp : ρ id with | mk B size =>
      rw [hp] at g1 e3
      exact .map es' B size ents' clock' g1 (by simpa using he.1) (fun i k x hi => by obtain ⟨e, a1, a2⟩ := he.2 i k x hi; exact ⟨e, by simpa using a1, a2⟩) e3
  have hrun0 : ∀ a, (Instr.findKey kt vk ents.toList).run P w = .ok a w → (Instr.mapUpdate t (.map (some (ρ id).1)) vk vx).run P w = (match a with
      | some (i, _) => do
        let key ← Instr.keyThatStays (((ents[i]?).map (·.key)).getD vk) vk
        setObj (ρ id).1 (.map (ents.modify i fun e => { e with key, val := vx }) clock)
      | none => setObj (ρ id).1 (.map (ents.push { key := vk, val := vx, born := clock }) (clock + 1)) : Sem Unit).run P w := fun a ha => by
    simp only [Instr.mapUpdate, Sem.run_bind, run_underlying hu, Result.andThen_ok, MapKept.run_getObj_map e1, run_checkKey' hk hself, ha]
    cases a <;> rfl
  cases hf : findK (cmpT P kt) kd es 0 with
  | none => simp [hf] at h
  | some q =>
    obtain ⟨a, a1, a2⟩ := findKey_spec hk e2 hself hf w
    rw [hrun0 a a1]
    cases q with
    | none =>
      cases a with
      | some p => cases a2
      | none =>
        simp only [hf] at h
        injection h with h; subst h
        refine ⟨_, MapKept.run_setObj_map _ e1, put _ _ _ ⟨by simp [e2.1], fun i k y hi => ?_⟩⟩
        rw [List.getElem?_append] at hi
        split at hi
        · rename_i hlt
          obtain ⟨en, b1, b2⟩ := e2.2 i k y hi
          exact ⟨en, by rw [Array.toList_push, List.getElem?_append_left (by rw [← e2.1]; exact hlt)]; exact b1, b2⟩
        · rename_i hlt
          have h0 : i - es.length = 0 := by have := (List.getElem?_eq_some_iff.1 hi).1; simpa using this
          rw [h0] at hi
          simp at hi
          obtain ⟨rfl, rfl⟩ := hi
          exact ⟨⟨vk, vx, clock⟩, by rw [Array.toList_push, List.getElem?_append_right (by rw [← e2.1]; omega), ← e2.1, h0]; rfl, hk, hx⟩
    | some q =>
      obtain ⟨j, y⟩ := q
      cases a with
      | none => cases a2
      | some p =>
        obtain ⟨j', u⟩ := p
        obtain ⟨rfl, _⟩ := a2
        simp only [hf] at h
        injection h with h; subst h
        obtain ⟨_, k', g1, g2⟩ := findK_get hf
        rw [Nat.sub_zero] at g1
        obtain ⟨en, b1, b2, b3⟩ := e2.2 j k' y g1
        obtain ⟨c1, c2⟩ := eqK_true hk b2 g2
        have b1' : ents[j]? = some en := by simpa using b1
        have hkt : (Instr.keyThatStays en.key vk).run P w = .ok vk w := by
          rw [← c1] at c2 ⊢
          simp [Instr.keyThatStays, c2]
        simp only [b1', Option.map_some, Option.getD_some, Sem.run_bind, hkt, Result.andThen_ok]
        refine ⟨_, MapKept.run_setObj_map _ e1, put _ _ _ ⟨by simp [e2.1], fun i k y' hi => ?_⟩⟩
        rw [List.getElem?_set] at hi
        simp only [Array.toList_modify, List.getElem?_modify]
        split at hi
        · rename_i hij
          subst hij
          split at hi <;> try (cases hi; done)
          simp at hi
          obtain ⟨rfl, rfl⟩ := hi
          exact ⟨{ en with key := vk, val := vx }, by simp [b1], hk, hx⟩
        · rename_i hij
          obtain ⟨en', d1, d2⟩ := e2.2 i k y' hi
          exact ⟨en', by simp [d1, hij], d2⟩
end Go.Proofs.YtboekhenldifhaaGreat
