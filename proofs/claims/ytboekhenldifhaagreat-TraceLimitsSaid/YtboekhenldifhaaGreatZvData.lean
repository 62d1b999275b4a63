/- A value turned into data; blocks that are closed. -/
import Derived.Test.YtboekhenldifhaaGreatZvOps9
set_option linter.unusedSimpArgs false
set_option linter.unusedVariables false
namespace Go.Proofs.YtboekhenldifhaaGreat
open Go.RowKit
variable {P : Program} {fo : Nat → Option FuncId} {K K' : Known} {ρ : Places} {w : World} {tr : FuncId → Option Nat} {base : Nat} {s s' : Store} {vv : Nat → Option (Nat × Nat)}

/-- All that block id shows is known for good. -/
def KnownB (fo : Nat → Option FuncId) (K : Known) (ρ : Places) (vv : Nat → Option (Nat × Nat)) (s : Store) (id : Nat) : Prop :=
  ∀ v ro e els, getB s id = some (.rows v ro e els) → (∀ r ∈ els, r.length = e) ∧ ∀ (i : Nat) r, els[i]? = some r → ∀ (j : Nat) x, r[j]? = some x → ∃ u, K (ρ id).1 (i * e + j) = some u ∧ RV fo K ρ vv x u ∧ u.oneCell' = true
theorem RD.scalar {d : D} {v : Value} (h : RD fo K d v) (h1 : v.oneCell' = true) : scalarD d = true := by
  cases h <;> first | rfl | (simp [Value.oneCell'] at h1)
section
variable {f : V → Option (D × List Nat)} {T : List Nat}
/-- What 'f' makes of a value is data that stands to it. -/
def Good (fo : Nat → Option FuncId) (K : Known) (ρ : Places) (vv : Nat → Option (Nat × Nat)) (f : V → Option (D × List Nat)) (T : List Nat) : Prop :=
  ∀ x d a v, f x = some (d, a) → (∀ i ∈ a, i ∈ T) → RV fo K ρ vv x v → RD fo K d v
theorem cellsDW_spec (hf : Good fo K ρ vv f T) : ∀ {xs : List V} {vs : List Value} {ds : List D} {a : List Nat}, RVs fo K ρ vv xs vs → cellsDW f xs = some (ds, a) → (∀ i ∈ a, i ∈ T) → RDs fo K ds vs
  | _, _, ds, a, .nil, h, _ => by simp [cellsDW] at h; rw [h.1]; exact .nil
  | _, _, ds, a, .cons x v xs vs hx hs, h, hT => by
    simp only [cellsDW] at h
    split at h <;> try (cases h; done)
    rename_i d b ds' c e1 e2
    injection h with h; injection h with q1 q2; subst q1; subst q2
    exact .cons _ _ _ _ (hf _ _ _ _ e1 (fun i hi => hT i (by simp [hi])) hx) (cellsDW_spec hf hs e2 fun i hi => hT i (by simp [hi]))
theorem cellsDW_append : ∀ {xs ys : List V} {ds es : List D} {a b : List Nat}, cellsDW f xs = some (ds, a) → cellsDW f ys = some (es, b) → cellsDW f (xs ++ ys) = some (ds ++ es, a ++ b)
  | [], ys, ds, es, a, b, h, h' => by simp [cellsDW] at h; obtain ⟨rfl, rfl⟩ := h; simpa using h'
  | x :: xs, ys, ds, es, a, b, h, h' => by
    simp only [cellsDW] at h
    split at h <;> try (cases h; done)
    rename_i d q ds' c e1 e2
    injection h with h; injection h with q1 q2; subst q1; subst q2
    simp only [List.cons_append, cellsDW, e1, cellsDW_append e2 h', List.append_assoc]
theorem ofCells_cells {ds : List D} (h : ∀ d ∈ ds, scalarD d = true) : (D.ofCells ds).cells = ds := by
  match ds with
  | [] => rfl
  | [d] => exact scalar_cells (h d (by simp))
  | _ :: _ :: _ => rfl
theorem cellsDW_length : ∀ {xs : List V} {ds : List D} {a : List Nat}, cellsDW f xs = some (ds, a) → ds.length = xs.length
  | [], ds, a, h => by simp [cellsDW] at h; rw [h.1]; rfl
  | x :: xs, ds, a, h => by
    simp only [cellsDW] at h
    split at h <;> try (cases h; done)
    rename_i d q ds' c e1 e2
    injection h with h; injection h with q1 q2; subst q1
    simp [cellsDW_length e2]
theorem rowsDW_spec (hf : Good fo K ρ vv f T) : ∀ {rows : List (List V)} {L : List Value} {es : List D} {a : List Nat}, RVs fo K ρ vv rows.flatten L → (∀ v ∈ L, v.oneCell' = true) → rowsDW f rows = some (es, a) → (∀ i ∈ a, i ∈ T) →
    RDs fo K (es.flatMap D.cells) L ∧ es.length = rows.length ∧ ∀ esz, (∀ r ∈ rows, r.length = esz) → ∀ e ∈ es, e.cells.length = esz
  | [], L, es, a, h, _, hr, _ => by simp [rowsDW] at hr; obtain ⟨rfl, rfl⟩ := hr; cases h; exact ⟨.nil, rfl, by simp⟩
  | r :: rows, L, es, a, h, h1, hr, hT => by
    simp only [rowsDW] at hr
    split at hr <;> try (cases hr; done)
    rename_i c b ds q e1 e2
    injection hr with hr; injection hr with q1 q2; subst q1; subst q2
    rw [List.flatten_cons] at h
    have hl := h.length
    have g1 := h.take r.length
    have g2 := h.drop r.length
    rw [List.take_left'] at g1
    rw [List.drop_left'] at g2
    all_goals (try rfl)
    have k1 := cellsDW_spec hf g1 e1 (fun i hi => hT i (by simp [hi]))
    have hsc : ∀ d ∈ c, scalarD d = true := fun d hd => by
      obtain ⟨i, hi, rfl⟩ := List.getElem_of_mem hd
      obtain ⟨u, u1, u2⟩ := k1.get (List.getElem?_eq_getElem hi)
      exact u2.scalar (h1 u (List.mem_of_mem_take (List.mem_of_getElem? u1)))
    obtain ⟨k2, k3, k4⟩ := rowsDW_spec hf g2 (fun v hv => h1 v (List.mem_of_mem_drop hv)) e2 (fun i hi => hT i (by simp [hi]))
    refine ⟨?_, by simp [k3], fun esz hw e he => ?_⟩
    · rw [List.flatMap_cons, ofCells_cells hsc, ← List.take_append_drop r.length L]
      exact k1.append k2
    · rcases List.mem_cons.1 he with rfl | he
      · rw [ofCells_cells hsc, cellsDW_length e1]; exact hw r (by simp)
      · exact k4 esz (fun r hr => hw r (by simp [hr])) e he
end
/-- Rows of a block that is known, in one list. -/
theorem known_rows {B o e : Nat} {rows : List (List V)} (he : ∀ r ∈ rows, r.length = e) (h : ∀ (i : Nat) r, rows[i]? = some r → ∀ (j : Nat) x, r[j]? = some x → ∃ u, K B (o + (i * e + j)) = some u ∧ RV fo K ρ vv x u ∧ u.oneCell' = true) :
    ∃ L : List Value, RVs fo K ρ vv rows.flatten L ∧ (∀ v ∈ L, v.oneCell' = true) ∧ (∀ (j : Nat) v, L[j]? = some v → K B (o + j) = some v) ∧ L.length = rows.length * e := by
  have key : ∀ k, k < rows.length * e → ∃ u, K B (o + k) = some u ∧ u.oneCell' = true := fun k hk => by
    have he0 : 0 < e := by
      rcases Nat.eq_zero_or_pos e with h | h
      · subst h; simp at hk
      · exact h
    have hi : k / e < rows.length := Nat.div_lt_of_lt_mul (by rw [Nat.mul_comm]; exact hk)
    have hj : k % e < rows[k / e].length := by rw [he _ (List.getElem_mem hi)]; exact Nat.mod_lt _ he0
    obtain ⟨u, e1, _, e3⟩ := h _ _ (List.getElem?_eq_getElem hi) _ _ (List.getElem?_eq_getElem hj)
    rw [Nat.mul_comm, Nat.div_add_mod] at e1
    exact ⟨u, e1, e3⟩
  have hget : ∀ (j : Nat) v, ((List.range (rows.length * e)).map fun k => (K B (o + k)).getD undef)[j]? = some v → K B (o + j) = some v ∧ v.oneCell' = true := fun j v hv => by
    have hj := (List.getElem?_eq_some_iff.1 hv).1
    simp at hj
    obtain ⟨u, e1, e2⟩ := key j hj
    simp [hj, e1] at hv
    exact hv ▸ ⟨e1, e2⟩
  refine ⟨(List.range (rows.length * e)).map fun k => (K B (o + k)).getD undef, ?_, fun v hv => ?_, fun j v hv => (hget j v hv).1, by simp⟩
  · refine rows_flat he (by simp) fun i r hi j x hx => ?_
    obtain ⟨u, e1, e2, _⟩ := h i r hi j x hx
    have hil := (List.getElem?_eq_some_iff.1 hi).1
    have hj : j < e := by rw [← he r (List.mem_of_getElem? hi)]; exact (List.getElem?_eq_some_iff.1 hx).1
    have : i * e + j < rows.length * e := by
      have := Nat.mul_le_mul_right e (show i + 1 ≤ rows.length from hil); rw [Nat.add_mul, Nat.one_mul] at this; omega
    exact ⟨u, by simp [this, e1], e2⟩
  · obtain ⟨j, hj, rfl⟩ := List.getElem_of_mem hv
    exact (hget j _ (List.getElem?_eq_getElem hj)).2

theorem toD_spec (hvv : vv = vo s) {T : List Nat} (hK : ∀ id ∈ T, KnownB fo K ρ vv s id) : ∀ (n : Nat), Good fo K ρ vv (toD s n) T
  | 0 => fun x d a v h => by simp [toD] at h
  | n + 1 => fun x d a v h hT hx => by
    have ih := toD_spec hvv hK n
    subst hvv
    unfold toD at h
    split at h
    · injection h with h; injection h with q1 q2; subst q1
      cases hx; assumption
    · injection h with h; injection h with q1 q2; subst q1
      cases hx; exact .sliceE _ _ (by simp)
    · injection h with h; injection h with q1 q2; subst q1
      cases hx; exact .sliceE _ _ (by simp)
    · injection h with h; injection h with q1 q2; subst q1
      cases hx; exact .sliceE _ _ (by simp)
    · injection h with h; injection h with q1 q2; subst q1
      cases hx; assumption
    · rename_i id ver off len
      obtain ⟨ad, m, cap, v0, e', rfl, g1, g2⟩ := hx.ms_inv
      split at h <;> try (cases h; done)
      rename_i v' ro esz els hb
      split at h <;> try (cases h; done)
      rename_i hc
      obtain ⟨rfl, hz, hle⟩ := hc
      cases hq : rowsDW (toD s n) ((els.drop off).take len) with
      | none => simp [hq] at h
      | some p =>
        obtain ⟨es, b⟩ := p
        simp [hq] at h
        obtain ⟨rfl, rfl⟩ := h
        rw [vo_rows hb] at g1; injection g1 with g1; injection g1 with q1 q2; subst q1; subst q2
        obtain ⟨_, rfl, rfl, k1, k2⟩ := g2 (Nat.le_refl _)
        obtain ⟨kw, kk⟩ := hK id (hT id (by simp)) _ _ _ _ hb
        have hw' : ∀ r ∈ (els.drop off).take m, r.length = esz := fun r hr => kw r (List.mem_of_mem_drop (List.mem_of_mem_take hr))
        obtain ⟨L, l1, l2, l3, l4⟩ := known_rows (B := (ρ id).1) (o := off * esz) (e := esz) (rows := (els.drop off).take m) hw' (fun i r hi j x hx => by
          simp only [List.getElem?_take, List.getElem?_drop] at hi
          split at hi <;> try (cases hi; done)
          obtain ⟨u, u1, u2⟩ := kk _ r hi j x hx
          exact ⟨u, by rw [← u1, Nat.add_mul]; congr 1; omega, u2⟩)
        obtain ⟨r1, r2, r3⟩ := rowsDW_spec ih l1 l2 hq (fun i hi => hT i (by simp [hi]))
        have hlen : es.length = m := by rw [r2]; simp; omega
        by_cases hm : m = 0
        · subst hm
          have : es = [] := List.length_eq_zero_iff.1 hlen
          subst this; exact .sliceE _ _ (by simp)
        · have := RD.slice (fo := fo) (K := K) es (ρ id).1 (off * esz) cap esz L (by intro h; rw [h] at hlen; simp at hlen; omega) hz (r3 esz hw') r1 l3 (by omega)
          rw [hlen] at this; exact this
    · rename_i id ver i j len
      obtain ⟨ad, m, cap, v0, e', rfl, g1, g2⟩ := hx.asl_inv
      split at h <;> try (cases h; done)
      rename_i v' ro esz els hb
      split at h <;> try (cases h; done)
      rename_i cs hi
      split at h <;> try (cases h; done)
      rename_i hc
      obtain ⟨rfl, hle⟩ := hc
      cases hq : cellsDW (toD s n) ((cs.drop j).take len) with
      | none => simp [hq] at h
      | some p =>
        obtain ⟨es, b⟩ := p
        simp [hq] at h
        obtain ⟨rfl, rfl⟩ := h
        rw [vo_rows hb] at g1; injection g1 with g1; injection g1 with q1 q2; subst q1; subst q2
        obtain ⟨_, rfl, rfl, k1⟩ := g2 (Nat.le_refl _)
        obtain ⟨kw, kk⟩ := hK id (hT id (by simp)) _ _ _ _ hb
        obtain ⟨L, l1, l2, l3, l4⟩ := known_rows (B := (ρ id).1) (o := i * esz + j) (e := 1) (rows := ((cs.drop j).take m).map fun x => [x]) (fun r hr => by obtain ⟨y, _, rfl⟩ := List.mem_map.1 hr; rfl) (fun q r hq q' x hx => by
          simp only [List.getElem?_map, Option.map_eq_some_iff] at hq
          obtain ⟨y, hy, rfl⟩ := hq
          have : q' = 0 := by have := (List.getElem?_eq_some_iff.1 hx).1; simpa using this
          subst this
          simp at hx; subst hx
          simp only [List.getElem?_take, List.getElem?_drop] at hy
          split at hy <;> try (cases hy; done)
          obtain ⟨u, u1, u2⟩ := kk i cs hi _ _ hy
          exact ⟨u, by rw [← u1]; congr 1; omega, u2⟩)
        have hfl : (((cs.drop j).take m).map fun x => [x]).flatten = (cs.drop j).take m := by
          generalize (cs.drop j).take m = l
          induction l with
          | nil => rfl
          | cons x xs ih => simp [ih]
        rw [hfl] at l1
        have r1 := cellsDW_spec ih l1 hq (fun i hi => hT i (by simp [hi]))
        have hlen : es.length = m := by rw [cellsDW_length hq]; simp; omega
        have hsc : ∀ d ∈ es, scalarD d = true := fun d hd => by
          obtain ⟨k, hk, rfl⟩ := List.getElem_of_mem hd
          obtain ⟨u, u1, u2⟩ := r1.get (List.getElem?_eq_getElem hk)
          exact u2.scalar (l2 u (List.mem_of_getElem? u1))
        by_cases hm : m = 0
        · subst hm
          have : es = [] := List.length_eq_zero_iff.1 hlen
          subst this; exact .sliceE _ _ (by simp)
        · have := RD.slice (fo := fo) (K := K) es (ρ id).1 (i * esz + j) cap 1 L (by intro h; rw [h] at hlen; simp at hlen; omega) (by omega) (fun e he => by rw [scalar_cells (hsc e he)]; rfl) (by rw [flat_scalar hsc]; exact r1) l3 (by omega)
          rw [hlen] at this; exact this
    · rename_i id ver i j
      obtain ⟨ad, v0, e', rfl, g1, g2⟩ := hx.ptr_inv
      split at h <;> try (cases h; done)
      rename_i v' ro esz els hb
      split at h <;> try (cases h; done)
      rename_i cs hi
      split at h <;> try (cases h; done)
      rename_i hc
      subst hc
      cases hq : cellsDW (toD s n) cs with
      | none => simp [hq] at h
      | some p =>
        obtain ⟨es, b⟩ := p
        simp [hq] at h
        obtain ⟨rfl, rfl⟩ := h
        rw [vo_rows hb] at g1; injection g1 with g1; injection g1 with q1 q2; subst q1; subst q2
        obtain ⟨_, rfl⟩ := g2 (Nat.le_refl _)
        obtain ⟨kw, kk⟩ := hK id (hT id (by simp)) _ _ _ _ hb
        have hcs := kw cs (List.mem_of_getElem? hi)
        obtain ⟨L, l1, l2, l3, l4⟩ := known_rows (B := (ρ id).1) (o := i * esz) (e := esz) (rows := [cs]) (by simpa using hcs) (fun q r hq q' x hx => by
          cases q with
          | succ q => simp at hq
          | zero =>
            simp at hq; subst hq
            obtain ⟨u, u1, u2⟩ := kk i cs hi _ _ hx
            exact ⟨u, by rw [← u1]; congr 1; omega, u2⟩)
        simp only [List.flatten_cons, List.flatten_nil, List.append_nil] at l1
        exact .iptr es j (ρ id).1 (i * esz) L (cellsDW_spec ih l1 hq (fun i hi => hT i (by simp [hi]))) l3
    · rename_i cs
      cases hq : cellsDW (toD s n) cs with
      | none => simp [hq] at h
      | some p =>
        obtain ⟨es, b⟩ := p
        simp [hq] at h
        obtain ⟨rfl, rfl⟩ := h
        cases hx with | agg _ vs hvs => exact .agg _ _ (cellsDW_spec ih hvs hq hT)
    · rename_i cs
      cases hq : cellsDW (toD s n) cs with
      | none => simp [hq] at h
      | some p =>
        obtain ⟨es, b⟩ := p
        simp [hq] at h
        obtain ⟨rfl, rfl⟩ := h
        cases hx with | tuple _ vs hvs => exact .tuple _ _ (cellsDW_spec ih hvs hq hT)
    · rename_i f x y
      split at h <;> try (cases h; done)
      rename_i a' p b' q e1 e2
      injection h with h; injection h with q1 q2; subst q1; subst q2
      cases hx with | func _ g _ _ va vb hf h1 h2 =>
      exact .func f g _ _ va vb hf (cellsDW_spec ih h1 e1 (fun i hi => hT i (by simp [hi]))) (cellsDW_spec ih h2 e2 (fun i hi => hT i (by simp [hi])))
    · cases h

/-! ### Blocks that are closed -/
/-- What is known when block B's cells are. -/
def learn (K : Known) (B : Nat) (c : Array Value) (n : Nat) : Known := fun B' o => if B' = B then (match K B o with | some v => some v | none => if o < n then c[o]? else none) else K B' o
theorem close_one {id v e : Nat} {ro : Bool} {els : List (List V)} (h : RS P fo base K ρ s w) (hb : getB s id = some (.rows v ro e els)) :
    ∃ K', RS P fo base K' ρ (setB s id (.rows v true e els)) w ∧ (∀ B o v, K B o = some v → K' B o = some v) ∧ vo (setB s id (.rows v true e els)) = vo s ∧ KnownB fo K' ρ (vo s) s id ∧ (∀ B o u, K' B o = some u → K B o = some u ∨ B = (ρ id).1) := by
  have hB := (h.blk id _ hb).1
  cases hp : ρ id with | mk B size =>
  rw [hp] at hB
  cases hB with
  | rows _ _ _ _ _ _ c t h1 h2 h3 h4 h5 h6 =>
    have hv : vo (setB s id (.rows v true e els)) = vo s := by
      funext j
      unfold setB
      rw [vo_set (getB_lt hb)]
      split
      · rename_i hj; subst hj; rw [vo_rows hb]
      · rfl
    have hcell : ∀ k, k < els.length * e → ∃ u, c[k]? = some u ∧ u.oneCell' = true := fun k hk => by
      have he0 : 0 < e := by
        rcases Nat.eq_zero_or_pos e with h | h
        · subst h; simp at hk
        · exact h
      have hi : k / e < els.length := Nat.div_lt_of_lt_mul (by rw [Nat.mul_comm]; exact hk)
      have hj : k % e < els[k / e].length := by rw [h4 _ (List.getElem_mem hi)]; exact Nat.mod_lt _ he0
      obtain ⟨u, e1, _, e3⟩ := h5 _ _ (List.getElem?_eq_getElem hi) _ _ (List.getElem?_eq_getElem hj)
      rw [Nat.mul_comm, Nat.div_add_mod] at e1
      exact ⟨u, e1, e3⟩
    have hKc : ∀ o u, K B o = some u → c[o]? = some u := fun o u hu => by
      obtain ⟨c', t', z', a1, a2⟩ := h.known B o u hu
      rw [h1] at a1; injection a1 with a1; injection a1 with a1; subst a1; exact a2
    have hKK : ∀ B' o u, K B' o = some u → learn K B c (els.length * e) B' o = some u := fun B' o u hu => by
      unfold learn
      by_cases hBB : B' = B
      · subst hBB; rw [if_pos rfl, hu]
      · rw [if_neg hBB]; exact hu
    have hinv : ∀ B' o u, learn K B c (els.length * e) B' o = some u → K B' o = some u ∨ (B' = B ∧ c[o]? = some u ∧ u.oneCell' = true) := fun B' o u hu => by
      unfold learn at hu
      split at hu
      · rename_i hBB
        split at hu
        · rename_i v hv; injection hu with hu; subst hu; exact .inl (hBB ▸ hv)
        · split at hu <;> try (cases hu; done)
          rename_i ho
          obtain ⟨u', e1, e2⟩ := hcell o ho
          rw [hu] at e1; injection e1 with e1; subst e1
          exact .inr ⟨hBB, hu, e2⟩
      · exact .inl hu
    refine ⟨learn K B c (els.length * e), ⟨fun B' o u hu => ?_, fun j b hj => ?_, fun i j a b ha hb' he => ?_, h.base, fun B' o u hu => ?_⟩, hKK, hv, fun v' ro' e' els' hb' => ?_, fun B' o u hu => ?_⟩
    · rcases hinv B' o u hu with hu | ⟨rfl, hu, _⟩
      · exact h.known B' o u hu
      · exact ⟨c, t, _, h1, hu⟩
    · rw [hv]
      by_cases hji : j = id
      · subst hji
        unfold setB at hj
        rw [getB_set_same (getB_lt hb)] at hj
        injection hj with hj; subst hj
        refine ⟨?_, (h.blk j _ hb).2⟩
        rw [hp]
        exact .rows _ _ _ _ B size c t h1 h2 h3 h4 (fun i r hi j x hx => let ⟨u, a1, a2, a3⟩ := h5 i r hi j x hx; ⟨u, a1, a2.mono hKK .refl, a3⟩) (fun hf => by cases hf)
      · unfold setB at hj
        rw [getB_set_other hji] at hj
        obtain ⟨b1, b2⟩ := h.blk j b hj
        refine ⟨b1.mono hKK .refl rfl (fun hn o => ?_), b2⟩
        have hne : (ρ j).1 ≠ B := fun heq => hji (h.inj j id _ _ hj hb (by rw [heq, hp]))
        unfold learn
        rw [if_neg hne]
        exact hn o
    · have key : ∀ k bk, getB (setB s id (.rows v true e els)) k = some bk → ∃ bk', getB s k = some bk' := fun k bk hk => by
        by_cases hk' : k = id
        · subst hk'; exact ⟨_, hb⟩
        · unfold setB at hk; rw [getB_set_other hk'] at hk; exact ⟨bk, hk⟩
      obtain ⟨_, ha'⟩ := key i a ha
      obtain ⟨_, hb''⟩ := key j b hb'
      exact h.inj i j _ _ ha' hb'' he
    · rcases hinv B' o u hu with hu | ⟨_, _, hu⟩
      · exact h.one B' o u hu
      · exact hu
    · rw [hb] at hb'; injection hb' with hb'; injection hb' with q1 q2 q3 q4; subst q1; subst q2; subst q3; subst q4
      refine ⟨h4, fun i r hi j x hx => ?_⟩
      obtain ⟨u, a1, a2, a3⟩ := h5 i r hi j x hx
      have hil := (List.getElem?_eq_some_iff.1 hi).1
      have hjl : j < e := by rw [← h4 r (List.mem_of_getElem? hi)]; exact (List.getElem?_eq_some_iff.1 hx).1
      have hlt : i * e + j < els.length * e := by
        have := Nat.mul_le_mul_right e (show i + 1 ≤ els.length from hil); rw [Nat.add_mul, Nat.one_mul] at this; omega
      refine ⟨u, ?_, a2.mono hKK .refl, a3⟩
      rw [hp]
      unfold learn
      rw [if_pos rfl]
      cases hk : K B (i * e + j) with
      | some u' => have := hKc _ _ hk; rw [a1] at this; simpa using this.symm
      | none => simp [hlt, a1]
    · rcases hinv B' o u hu with hu | ⟨h, _, _⟩
      · exact .inl hu
      · right; exact h
end Go.Proofs.YtboekhenldifhaaGreat
