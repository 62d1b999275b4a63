/- The operations that touch no memory, last part; what is read of memory. -/
import Derived.Test.YtboekhenldifhaaGreatZvOps4
namespace Go.Proofs.YtboekhenldifhaaGreat
open Go.RowKit
variable {P : Program} {fo : Nat → Option FuncId} {K : Known} {ρ : Places} {vv : Nat → Option (Nat × Nat)} {w : World} {tr : FuncId → Option Nat} {base : Nat} {s : Store}

theorem build_array {t e : TypeId} {m n : Nat} {z r : List V} {parts : List (Nat × Value)} {vparts : List (Nat × Nat × V)} (htr : ∀ g f, tr g = some f → fo f = some g) (hu : P.underlying t = some (.array m e))
    (hz : zeroT P tr t = some z) (hn : sizeT P e = some n) (hl : parts.length = vparts.length)
    (hp : ∀ (k i : Nat) (v : Value), parts[k]? = some (i, v) → ∃ x, vparts[k]? = some (i * n, n, x) ∧ RV fo K ρ vv x v) (h : fillCells z vparts = some r) (w : World) :
    ∃ v, (Instr.build t parts.toArray).run P w = .ok v w ∧ RV fo K ρ vv (mkAgg r) v := by
  obtain ⟨v0, h1, h2⟩ := zeroT_spec (fo := fo) (K := K) (ρ := ρ) (vv := vv) htr hz w
  obtain ⟨cs, e1, e2⟩ := fill_spec (place := fun i => some (i * n, n)) parts vparts z v0.cells r h2 hl (fun k i v hk => by
    obtain ⟨x, a1, a4⟩ := hp k i v hk
    exact ⟨i * n, n, x, a1, rfl, a4⟩) h
  refine ⟨.agg cs, ?_, RV.mkAgg e2⟩
  simp only [Instr.build, Sem.run_bind, h1, Result.andThen_ok, run_underlying hu, run_sizeT hn]
  generalize hq : Instr.fill _ v0.cells _ = q
  have : q = some cs := hq.symm.trans e1
  subst this
  simp

theorem minmax_spec {less : Int → Int → Bool} {f : Value → Value → Sem Value} (hf : ∀ k a b w, (f (.int k a) (.int k b)).run P w = .ok (.int k (if less b a then b else a)) w) :
    ∀ (xs : List V) (vs : List Value) (x : V) (v : Value) (r : V), RV fo K ρ vv x v → RVs fo K ρ vv xs vs → minmax less x xs = some r → ∀ w, ∃ z, (vs.foldlM f v).run P w = .ok z w ∧ RV fo K ρ vv r z
  | [], vs, x, v, r, hx, hs, h, w => by
    cases hs
    simp [minmax] at h; subst h
    exact ⟨v, by simp, hx⟩
  | y :: ys, vs, x, v, r, hx, hs, h, w => by
    cases hs with | cons _ u _ us hy hys =>
    unfold minmax at h
    split at h
    · simp_all
    · rename_i k a k' b ys' heq
      injection heq with e1 e2; subst e1; subst e2
      split at h <;> try (cases h; done)
      rename_i hk; subst hk
      have := hx.int_inv; have := hy.int_inv; subst_vars
      obtain ⟨z, h1, h2⟩ := minmax_spec hf ys us _ _ r (RV.of_int k (if less b a then b else a)) hys h w
      exact ⟨z, by simp only [List.foldlM_cons, Sem.run_bind, hf, Result.andThen_ok, h1], h2⟩
    · cases h

theorem index_spec {t : TypeId} {x i r : V} {v u : Value} (hu : P.underlying t = some .string)
    (hx : RV fo K ρ vv x v) (hi : RV fo K ρ vv i u) (h : indexV x i = some r) (w : World) : ∃ z, (Instr.index t v u).run P w = .ok z w ∧ RV fo K ρ vv r z := by
  unfold indexV at h
  cases hq : idx i with
  | none => simp [hq] at h
  | some m =>
    obtain ⟨q, rfl⟩ := idx_spec hi hq
    simp only [hq] at h
    split at h
    · rename_i b
      have := hx.str_inv; subst this
      cases hb : b[m]? with
      | none => simp [hb] at h
      | some c =>
        simp [hb] at h; subst h
        exact ⟨_, by simp [Instr.index, Sem.run_bind, asIntOf, run_underlying hu, hb], .of_int _ _⟩
    · cases h
theorem run_part_cell {t : TypeId} (h : aggT P t = some false) {cs : Array Value} {i : Nat} {v : Value} (hv : cs[i]? = some v) (w : World) : (part t cs i).run P w = .ok v w := by
  unfold part
  simp [Sem.run_bind, run_aggT h w, hv]
theorem indexA_spec {t e : TypeId} {n : Nat} {x i r : V} {v u : Value} (hu : P.underlying t = some (.array n e)) (hs : sizeT P e = some 1) (ha : aggT P e = some false)
    (hx : RV fo K ρ vv x v) (hi : RV fo K ρ vv i u) (h : indexAV n x i = some r) (w : World) : ∃ z, (Instr.index t v u).run P w = .ok z w ∧ RV fo K ρ vv r z := by
  unfold indexAV at h
  cases hq : idx i with
  | none => simp [hq] at h
  | some m =>
    obtain ⟨q, rfl⟩ := idx_spec hi hq
    simp only [hq] at h
    split at h <;> try (cases h; done)
    rename_i hm
    split at h
    · rename_i cs
      obtain ⟨vs, rfl, hvs⟩ := hx.dagg_inv
      cases hb : cs[m]? with
      | none => simp [hb] at h
      | some c =>
        simp [hb] at h; subst h
        obtain ⟨z, e1, e2⟩ := hvs.get hb
        refine ⟨z, ?_, .d _ _ e2⟩
        simp only [Instr.index, Sem.run_bind, asIntOf, Sem.run_pure, Result.andThen_ok, run_underlying hu]
        rw [if_pos ⟨by omega, by omega⟩]
        simp only [Sem.run_bind, run_sizeT hs, Result.andThen_ok, Nat.mul_one]
        exact run_part_cell ha (by simpa using e1) w
    · cases h

/-! ### Loads -/
theorem RS.kread (h : RS P fo base K ρ s w) {B o n : Nat} {vs : List Value} (hk : ∀ (j : Nat) v, vs[j]? = some v → K B (o + j) = some v) (hn : n ≤ vs.length) :
    (loadCells ⟨B, o, none⟩ n).run P w = .ok (vs.take n).toArray w := by
  have := run_loadCells_list (P := P) w ⟨B, o, none⟩ (vs.take n) (fun j v hv => by
    rw [add_addr]
    simp only [List.getElem?_take] at hv
    split at hv <;> try (cases hv; done)
    exact h.kcell (hk j v hv))
  simpa [Nat.min_eq_left hn] using this
theorem loadVar_spec {t : TypeId} {agg : Bool} {n : Nat} {a : Addr} {vs : List Value} (ha : aggT P t = some agg) (hn : sizeT P t = some n) (hl : vs.length = n) (h1 : agg = false → n = 1)
    (hv : ∀ (j : Nat) v, vs[j]? = some v → w.cell? (a.add j) = some v) : (loadVar t a).run P w = .ok (if agg then .agg vs.toArray else vs.getD 0 undef) w := by
  unfold loadVar
  simp only [Sem.run_bind, run_aggT ha, Result.andThen_ok]
  cases agg with
  | true =>
    have := run_loadCells_list (P := P) w a vs hv
    rw [hl] at this
    simp [Sem.run_bind, run_sizeT hn, this]
  | false =>
    have h1 := h1 rfl
    have h0 := hv 0 (vs.getD 0 undef) (by simp [List.getElem?_eq_getElem (show 0 < vs.length by omega)])
    have e0 : a.add 0 = a := rfl
    rw [e0] at h0
    simp only [Bool.false_eq_true, if_false]
    rw [run_load, h0]

/-- A row of a block, with the values that lie there. -/
theorem row_vals {ver esz : Nat} {ro : Bool} {els : List (List V)} {p : Nat × Nat} (h : RBlk P fo K ρ vv w (.rows ver ro esz els) p) {i : Nat} {r : List V} (hi : els[i]? = some r) :
    ∃ (c : Array Value) (t : TypeId) (vs : List Value), w.heap[p.1]? = some (.cells c t (0, 0)) ∧ c.size = p.2 ∧ els.length * esz ≤ p.2 ∧ r.length = esz ∧ RVs fo K ρ vv r vs ∧ (∀ (j : Nat) v, vs[j]? = some v → c[i * esz + j]? = some v ∧ v.oneCell' = true) := by
  cases h with
  | rows _ _ _ _ B size c t h1 h2 h3 h4 h5 h6 =>
    have hr := h4 r (List.mem_of_getElem? hi)
    refine ⟨c, t, (List.range r.length).map fun j => c.getD (i * esz + j) undef, h1, h2, h3, hr, .of_get (by simp) fun j x v hx hv => ?_, fun j v hv => ?_⟩
    · obtain ⟨u, e1, e2, _⟩ := h5 i r hi j x hx
      have hj := (List.getElem?_eq_some_iff.1 hx).1
      simp [hj, e1] at hv
      exact hv ▸ e2
    · have hj : j < r.length := by have := (List.getElem?_eq_some_iff.1 hv).1; simpa using this
      obtain ⟨u, e1, e2, e3⟩ := h5 i r hi j r[j] (by simp [hj])
      simp [hj, e1] at hv
      exact ⟨hv ▸ e1, hv ▸ e3⟩
theorem row_cell {c : Array Value} {t : TypeId} {B k : Nat} {v : Value} (h : w.heap[B]? = some (.cells c t (0, 0))) (hv : c[k]? = some v) : w.cell? ⟨B, k, none⟩ = some v := by simp [World.cell?, h, hv]

theorem RVs.head_getD {x : V} : ∀ {xs : List V} {vs : List Value}, RVs fo K ρ vv xs vs → xs[0]? = some x → RV fo K ρ vv x (vs.getD 0 undef)
  | _, _, .nil, h => by simp at h
  | _, _, .cons _ _ _ _ h _, h' => by simp at h'; subst h'; simpa using h
theorem vo_rows {id ver esz : Nat} {ro : Bool} {els : List (List V)} (h : getB s id = some (.rows ver ro esz els)) : vo s id = some (ver, esz) := by simp [vo, h]

theorem load_spec {t : TypeId} {agg : Bool} {n : Nat} {x r : V} {v : Value} (hS : RS P fo base K ρ s w) (ha : aggT P t = some agg) (hn : sizeT P t = some n) (h1 : agg = false → n = 1)
    (hx : RV fo K ρ (vo s) x v) (h : loadV s agg n x = some r) : ∃ z, (Instr.loadAt t v).run P w = .ok z w ∧ RV fo K ρ (vo s) r z := by
  unfold loadV at h
  split at h
  · rename_i cs off
    obtain ⟨B, o, vs, rfl, g1, g2⟩ := hx.iptr_inv
    split at h <;> try (cases h; done)
    rename_i hle
    have hl := g1.length
    have key := loadVar_spec (P := P) (w := w) (a := ⟨B, o + off, none⟩) (vs := (vs.drop off).take n) ha hn (by simp; omega) h1 (fun j v hv => by
      rw [add_addr]
      simp only [List.getElem?_take, List.getElem?_drop] at hv
      split at hv <;> try (cases hv; done)
      rw [Nat.add_assoc]
      exact hS.kcell (g2 _ _ hv))
    refine ⟨_, by simp only [Instr.loadAt, Instr.sureAddr, Sem.run_bind, Sem.run_pure, Result.andThen_ok]; exact key, ?_⟩
    cases agg with
    | true => simp at h; subst h; exact .d _ _ (.agg _ _ (by simpa using (g1.drop off).take n))
    | false =>
      have h1 := h1 rfl; subst h1
      simp only [Bool.false_eq_true, if_false] at h ⊢
      cases hq : cs[off]? with
      | none => simp [hq] at h
      | some d =>
        simp [hq] at h; subst h
        have := ((g1.drop off).take 1)
        refine (RVs.of_d (ρ := ρ) (vv := vo s) this).head_getD ?_
        simp [hq]
  · rename_i id ver i j
    obtain ⟨a, v0, e, rfl, g1, g2⟩ := hx.ptr_inv
    split at h <;> try (cases h; done)
    rename_i v' ro esz els hb
    split at h <;> try (cases h; done)
    rename_i hv; subst hv
    split at h <;> try (cases h; done)
    rename_i cs hi
    split at h <;> try (cases h; done)
    rename_i hle
    rw [vo_rows hb] at g1; injection g1 with g1; injection g1 with e1 e2; subst e1; subst e2
    obtain ⟨_, rfl⟩ := g2 (Nat.le_refl _)
    obtain ⟨c, ty, vs, k1, k2, k3, k4, k5, k6⟩ := row_vals (hS.blk id _ hb).1 hi
    have hl := k5.length
    have key := loadVar_spec (P := P) (w := w) (a := ⟨(ρ id).1, i * esz + j, none⟩) (vs := (vs.drop j).take n) ha hn (by simp; omega) h1 (fun q v hv => by
      rw [add_addr]
      simp only [List.getElem?_take, List.getElem?_drop] at hv
      split at hv <;> try (cases hv; done)
      rw [Nat.add_assoc]
      exact row_cell k1 (k6 _ _ hv).1)
    refine ⟨_, by simp only [Instr.loadAt, Instr.sureAddr, Sem.run_bind, Sem.run_pure, Result.andThen_ok]; exact key, ?_⟩
    cases agg with
    | true => simp at h; subst h; exact RV.mkAgg (by simpa using (k5.drop j).take n)
    | false =>
      have h1 := h1 rfl; subst h1
      simp only [Bool.false_eq_true, if_false] at h ⊢
      refine ((k5.drop j).take 1).head_getD ?_
      simpa using h
  · cases h
end Go.Proofs.YtboekhenldifhaaGreat
