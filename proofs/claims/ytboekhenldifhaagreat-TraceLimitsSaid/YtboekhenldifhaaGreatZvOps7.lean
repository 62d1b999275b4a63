/- What writes memory: new blocks, stores. -/
import Derived.Test.YtboekhenldifhaaGreatZvOps6
namespace Go.Proofs.YtboekhenldifhaaGreat
open Go.RowKit
variable {P : Program} {fo : Nat → Option FuncId} {K : Known} {ρ : Places} {w : World} {tr : FuncId → Option Nat} {base : Nat} {s s' : Store}

theorem slice_str {t : TypeId} {b : ByteArray} {r : V} {lo hi : Option V} {vlo vhi : Option Value} {esz : Nat} (hu : P.underlying t = some .string)
    (hlo : (lo = none ∧ vlo = none) ∨ ∃ x v, lo = some x ∧ vlo = some v ∧ RV fo K ρ (vo s) x v) (hhi : (hi = none ∧ vhi = none) ∨ ∃ x v, hi = some x ∧ vhi = some v ∧ RV fo K ρ (vo s) x v)
    (h : sliceV s esz (.d (.str b)) lo hi = some r) (w : World) : ∃ z, (Instr.sliceAt t (.string b) vlo vhi none).run P w = .ok z w ∧ RV fo K ρ (vo s) r z := by
  unfold sliceV at h
  simp only [lenV] at h
  split at h <;> try (cases h; done)
  rename_i l hh e1 e2
  split at h <;> try (cases h; done)
  rename_i hle
  injection h with h; subst h
  refine ⟨.string (b.extract l hh), ?_, .d _ _ (.str _)⟩
  simp only [Instr.sliceAt, Instr.slice, Sem.run_bind, run_underlying hu, Result.andThen_ok, Option.isSome_none, Bool.false_eq_true, if_false, bounds_run (P := P) (w := w) (isS := false) hlo hhi e1 e2 hle (Nat.le_refl _), Sem.run_pure]

theorem scalar_cells {d : D} (h : scalarD d = true) : d.cells = [d] := by cases d <;> first | rfl | (simp [scalarD] at h)
theorem flat_scalar : ∀ {es : List D}, (∀ x ∈ es, scalarD x = true) → es.flatMap D.cells = es
  | [], _ => rfl
  | e :: es, h => by rw [List.flatMap_cons, scalar_cells (h e (by simp)), flat_scalar (fun x hx => h x (by simp [hx]))]; rfl
theorem slarr_spec {t e : TypeId} {n esz : Nat} {x r : V} {v : Value} {lo hi : Option V} {vlo vhi : Option Value} (hu : P.underlying t = some (.array n e)) (hs : sizeT P e = some esz)
    (hx : RV fo K ρ (vo s) x v)
    (hlo : (lo = none ∧ vlo = none) ∨ ∃ x v, lo = some x ∧ vlo = some v ∧ RV fo K ρ (vo s) x v) (hhi : (hi = none ∧ vhi = none) ∨ ∃ x v, hi = some x ∧ vhi = some v ∧ RV fo K ρ (vo s) x v)
    (h : slarrV s n esz x lo hi = some r) (w : World) : ∃ z, (Instr.sliceAt t v vlo vhi none).run P w = .ok z w ∧ RV fo K ρ (vo s) r z := by
  unfold slarrV at h
  split at h <;> try (cases h; done)
  rename_i l hh e1 e2
  split at h <;> try (cases h; done)
  rename_i hle
  obtain ⟨hle1, hle2, rfl⟩ := hle
  have run : ∀ a, v = .pointer (some a) → (Instr.sliceAt t v vlo vhi none).run P w = .ok (.slice (some (if n = l then a else a.add (l * 1))) (hh - l) (n - l)) w := by
    rintro a rfl
    simp only [Instr.sliceAt, Sem.run_bind, run_underlying hu, Result.andThen_ok, Instr.sureAddr, bounds_run (P := P) (w := w) (isS := false) hlo hhi e1 e2 ⟨hle1, hle2⟩ (Nat.le_refl _), run_sizeT hs, Sem.run_pure]
  split at h
  · rename_i cs off
    obtain ⟨B, o, vs, rfl, g1, g2⟩ := hx.iptr_inv
    split at h <;> try (cases h; done)
    rename_i hfit
    injection h with h; subst h
    refine ⟨_, run _ rfl, ?_⟩
    by_cases hlh : hh = l
    · subst hlh; simp; exact .d _ _ (.sliceE _ _ (by simp))
    · rw [if_neg (by omega), Nat.mul_one, add_addr]
      obtain ⟨hfit, hsc⟩ := hfit
      have hl := g1.length
      have hlen : ((cs.drop (off + l)).take (hh - l)).length = hh - l := by simp; omega
      have hsc' : ∀ x ∈ (cs.drop (off + l)).take (hh - l), scalarD x = true := by simpa using hsc
      have g6 := (g1.drop (off + l)).take (hh - l)
      have := RD.slice (fo := fo) (K := K) ((cs.drop (off + l)).take (hh - l)) B (o + off + l) (n - l) 1 _ (by intro h; rw [h] at hlen; simp at hlen; omega) (by omega)
        (fun x hx => by rw [scalar_cells (hsc' x hx)]; rfl) (by rw [flat_scalar hsc']; exact g6) (fun j u hj => by
          simp only [List.getElem?_take, List.getElem?_drop] at hj
          split at hj <;> try (cases hj; done)
          have := g2 _ _ hj
          rwa [show o + (off + l + j) = o + off + l + j by omega] at this) (by omega)
      rw [hlen] at this
      exact .d _ _ this
  · rename_i id ver i j
    obtain ⟨a, v0, e', rfl, g1, g2⟩ := hx.ptr_inv
    split at h
    · rename_i hlh; subst hlh
      injection h with h; subst h
      refine ⟨_, run _ rfl, ?_⟩
      simp; exact .d _ _ (.sliceE _ _ (by simp))
    · rename_i hlh
      split at h <;> try (cases h; done)
      rename_i v' ro e'' els hb
      split at h <;> try (cases h; done)
      rename_i cs hi'
      split at h <;> try (cases h; done)
      rename_i hc
      obtain ⟨rfl, hfit⟩ := hc
      injection h with h; subst h
      have g1' := g1
      rw [vo_rows hb] at g1'; injection g1' with g1'; injection g1' with q1 q2; subst q1; subst q2
      obtain ⟨_, rfl⟩ := g2 (Nat.le_refl _)
      refine ⟨_, run _ rfl, ?_⟩
      rw [if_neg (by omega), Nat.mul_one, add_addr]
      exact .asl _ _ _ _ _ _ _ _ _ _ g1 fun _ => ⟨rfl, by congr 1; omega, rfl, by omega⟩
  · cases h

/-! ### New blocks -/
theorem newB_spec {id : Nat} {b : Blk} (h : newB s id b = some s') : id < s.length ∧ getB s id = none ∧ s' = s.set id (some b) := by
  unfold newB at h
  split at h <;> try (cases h; done)
  rename_i hc
  injection h with h
  exact ⟨hc.1, by simpa using hc.2, h.symm⟩
/-- A block of rows, as it is laid. -/
theorem rows_new {id esz : Nat} {els : List (List V)} {c : Array Value} {t : TypeId} (hS : RS P fo base K ρ s w) (hid : id < s.length) (hn : getB s id = none)
    (hsz : els.length * esz ≤ c.size) (hw : ∀ r ∈ els, r.length = esz) (hr : ∀ (i : Nat) r, els[i]? = some r → ∀ (j : Nat) x, r[j]? = some x → ∃ v, c[i * esz + j]? = some v ∧ RV fo K ρ (vo s) x v ∧ v.oneCell' = true) :
    RS P fo base K (placed ρ id w.heap.size c.size) (s.set id (some (.rows 0 false esz els))) (w.alloc (.cells c t)) ∧
    Stp base K ρ s w K (placed ρ id w.heap.size c.size) (s.set id (some (.rows 0 false esz els))) (w.alloc (.cells c t)) := by
  have hL : Later ρ (placed ρ id w.heap.size c.size) (vo s) (vo (s.set id (some (Blk.rows 0 false esz els)))) := .new hid hn
  refine hS.new hid hn (.rows 0 false esz els _ _ c t (World.alloc_heap_new w _) rfl hsz hw (fun i r hi j x hj => ?_) (fun _ o => ?_))
  · obtain ⟨v, e1, e2, e3⟩ := hr i r hi j x hj
    exact ⟨v, e1, e2.mono (fun _ _ _ h => h) hL, e3⟩
  · cases hk : K w.heap.size o with
    | none => rfl
    | some v =>
      obtain ⟨_, _, _, h1, _⟩ := hS.known _ _ _ hk
      have := (Array.getElem?_eq_some_iff.1 h1).1
      omega
theorem var_new {id : Nat} {z : List V} {v : Value} {t : TypeId} (hS : RS P fo base K ρ s w) (hid : id < s.length) (hn : getB s id = none) (hz : RVs fo K ρ (vo s) z v.cells.toList) (hsc : z.all scalarV = true) :
    ∃ ρ', RS P fo base K ρ' (s.set id (some (.rows 0 false z.length [z]))) (w.alloc (.cells v.cells t)) ∧ Stp base K ρ s w K ρ' (s.set id (some (.rows 0 false z.length [z]))) (w.alloc (.cells v.cells t)) ∧
      RV fo K ρ' (vo (s.set id (some (.rows 0 false z.length [z])))) (.ptr id 0 0 0) (.pointer (some ⟨w.heap.size, 0, none⟩)) := by
  have hl := hz.length
  simp only [Array.length_toList] at hl
  obtain ⟨h1, h2⟩ := rows_new (t := t) (c := v.cells) (els := [z]) (esz := z.length) hS hid hn (by simp; omega) (by simp) (fun i r hi j x hj => by
    cases i with
    | succ i => simp at hi
    | zero =>
      simp at hi; subst hi
      obtain ⟨u, e1, e2⟩ := hz.get hj
      refine ⟨u, by simpa using e1, e2, e2.cellV ?_⟩
      exact List.all_eq_true.1 hsc x (List.mem_of_getElem? hj))
  refine ⟨_, h1, h2, .ptr _ _ _ _ 0 z.length _ (by rw [vo_set hid]; simp) fun _ => ⟨rfl, ?_⟩⟩
  simp [placed]

theorem alloc_spec (htr : ∀ g f, tr g = some f → fo f = some g) {t : TypeId} {z : List V} {id : Nat} (hS : RS P fo base K ρ s w) (hz : zeroT P tr t = some z) (hsc : z.all scalarV = true) (h : newB s id (.rows 0 false z.length [z]) = some s') :
    ∃ v ρ' w', (Instr.alloc t true (.tuple #[])).run P w = .ok v w' ∧ RS P fo base K ρ' s' w' ∧ Stp base K ρ s w K ρ' s' w' ∧ RV fo K ρ' (vo s') (.ptr id 0 0 0) v := by
  obtain ⟨h1, h2, rfl⟩ := newB_spec h
  obtain ⟨v, e1, e2⟩ := zeroT_spec (fo := fo) (K := K) (ρ := ρ) (vv := vo s) htr hz w
  obtain ⟨ρ', a1, a2, a3⟩ := var_new (t := t) hS h1 h2 e2 hsc
  exact ⟨_, ρ', _, by simp only [Instr.alloc, Sem.run_bind, e1, Result.andThen_ok]; simp [newVar, newRow], a1, a2, a3⟩
theorem box_spec {t : TypeId} {x : V} {v : Value} {id : Nat} (hS : RS P fo base K ρ s w) (hx : RV fo K ρ (vo s) x v) (hk : known x = true) (hsc : x.cells.all scalarV = true) (h : newB s id (.rows 0 false x.cells.length [x.cells]) = some s') :
    ∃ u ρ' w', (Instr.box t v).run P w = .ok u w' ∧ RS P fo base K ρ' s' w' ∧ Stp base K ρ s w K ρ' s' w' ∧ RV fo K ρ' (vo s') (.ptr id 0 0 0) u := by
  obtain ⟨h1, h2, rfl⟩ := newB_spec h
  obtain ⟨ρ', a1, a2, a3⟩ := var_new (t := t) hS h1 h2 (hx.cells (by rintro rfl; simp [known] at hk)) hsc
  exact ⟨_, ρ', _, by simp [Instr.box, newVar, newRow], a1, a2, a3⟩
theorem mkmap_spec {t : TypeId} {id : Nat} (hS : RS P fo base K ρ s w) (h : newB s id (.map []) = some s') :
    ∃ u ρ' w', (Instr.makeMap t none).run P w = .ok u w' ∧ RS P fo base K ρ' s' w' ∧ Stp base K ρ s w K ρ' s' w' ∧ RV fo K ρ' (vo s') (.map id) u := by
  obtain ⟨h1, h2, rfl⟩ := newB_spec h
  obtain ⟨a1, a2⟩ := hS.new (size := 0) (b := .map []) (o := .map #[] 0) h1 h2 (.map [] _ _ #[] 0 (World.alloc_heap_new w _) rfl (by simp) (fun o => by
    cases hk : K w.heap.size o with
    | none => rfl
    | some v =>
      obtain ⟨_, _, _, h1, _⟩ := hS.known _ _ _ hk
      have := (Array.getElem?_eq_some_iff.1 h1).1
      omega))
  have key : RV fo K (placed ρ id w.heap.size 0) (vo (s.set id (some (.map [])))) (.map id) (.map (some (placed ρ id w.heap.size 0 id).1)) := .map id 0 (by rw [vo_set h1]; simp)
  refine ⟨_, _, _, by simp [Instr.makeMap]; rfl, a1, a2, ?_⟩
  simpa [placed] using key

/-! ### Stores -/
theorem seg_get {α : Type} (l m : List α) (o k : Nat) (h : o + m.length ≤ l.length) : (l.take o ++ m ++ l.drop (o + m.length))[k]? = if o ≤ k ∧ k < o + m.length then m[k - o]? else l[k]? := by
  by_cases h1 : k < o
  · rw [if_neg (by omega), List.append_assoc, List.getElem?_append_left (by simp; omega), List.getElem?_take, if_pos h1]
  · by_cases h2 : k < o + m.length
    · rw [if_pos ⟨by omega, h2⟩, List.append_assoc, List.getElem?_append_right (by simp; omega), List.getElem?_append_left (by simp; omega)]
      congr 1; simp; omega
    · rw [if_neg (by omega), List.getElem?_append_right (by simp; omega), List.getElem?_drop]
      congr 1; simp; omega
theorem splice_get (cs xs : List V) (j q : Nat) (h : j + xs.length ≤ cs.length) : (splice cs j xs)[q]? = if j ≤ q ∧ q < j + xs.length then xs[q - j]? else cs[q]? := seg_get cs xs j q h
theorem splice_length (cs xs : List V) (j : Nat) (h : j + xs.length ≤ cs.length) : (splice cs j xs).length = cs.length := by simp [splice]; omega
theorem store_spec {t : TypeId} {n : Nat} {a x : V} {va vx : Value} (hS : RS P fo base K ρ s w) (hn : sizeT P t = some n) (ha : RV fo K ρ (vo s) a va) (hx : RV fo K ρ (vo s) x vx) (h : storeV s n a x = some s') :
    ∃ w', (Instr.storeAt t va vx).run P w = .ok () w' ∧ RS P fo base K ρ s' w' ∧ Stp base K ρ s w K ρ s' w' := by
  unfold storeV at h
  split at h <;> try (cases h; done)
  rename_i id ver i j
  obtain ⟨ad, v0, e', rfl, g1, g2⟩ := ha.ptr_inv
  split at h <;> try (cases h; done)
  rename_i v' esz els hb
  split at h <;> try (cases h; done)
  rename_i hc
  obtain ⟨rfl, hxn, hsc⟩ := hc
  split at h <;> try (cases h; done)
  rename_i cs hi
  split at h <;> try (cases h; done)
  rename_i hfit
  injection h with h; subst h
  have g1' := g1
  rw [vo_rows hb] at g1'; injection g1' with g1'; injection g1' with q1 q2; subst q1; subst q2
  obtain ⟨_, rfl⟩ := g2 (Nat.le_refl _)
  have hkn : x ≠ .poison := by
    rintro rfl; simp [V.cells, scalarV] at hsc
  have hcells := hx.cells hkn
  have hcl := hcells.length
  simp only [Array.length_toList] at hcl
  have hB := (hS.blk id _ hb).1
  have hbase := (hS.blk id _ hb).2
  generalize hp : ρ id = p at hB
  cases hB with
  | rows _ _ _ _ B size c ty h1 h2 h3 h4 h5 h6 =>
    have hcs := h4 cs (List.mem_of_getElem? hi)
    have hilt := (List.getElem?_eq_some_iff.1 hi).1
    have hmul : (i + 1) * esz ≤ els.length * esz := Nat.mul_le_mul_right _ hilt
    rw [Nat.add_mul, Nat.one_mul] at hmul
    have hone : ∀ v ∈ vx.cells.toList, v.oneCell' = true := fun v hv => by
      obtain ⟨k, hk, rfl⟩ := List.getElem_of_mem hv
      have hk' : k < x.cells.length := by rw [hcl]; simpa using hk
      obtain ⟨u, e1, e2⟩ := hcells.get (List.getElem?_eq_getElem hk')
      rw [List.getElem?_eq_getElem hk] at e1; injection e1 with e1
      exact e1 ▸ e2.cellV (List.all_eq_true.1 hsc _ (List.getElem_mem hk'))
    have hrun := run_storeCells_at P B (i * esz + j) ty vx.cells.toList 0 c w h1 (by simp; omega) hone
    simp only [Nat.add_zero] at hrun
    have hrun' : (Instr.storeAt t (.pointer (some ⟨B, i * esz + j, none⟩)) vx).run P w = .ok () (w.setRow B (c.toList.take (i * esz + j) ++ vx.cells.toList ++ c.toList.drop (i * esz + j + vx.cells.toList.length)).toArray) := by
      simp only [Instr.storeAt, Instr.sureAddr, Sem.run_bind, Sem.run_pure, Result.andThen_ok, storeVar, run_sizeT hn]
      rw [if_neg (by omega)]
      exact hrun
    refine ⟨_, hrun', ?_⟩
    have hrow : ∀ k, (c.toList.take (i * esz + j) ++ vx.cells.toList ++ c.toList.drop (i * esz + j + vx.cells.toList.length)).toArray[k]? = if i * esz + j ≤ k ∧ k < i * esz + j + vx.cells.toList.length then vx.cells.toList[k - (i * esz + j)]? else c[k]? := by
      intro k
      rw [List.getElem?_toArray, seg_get _ _ _ _ (by simp; omega)]
      simp
    refine hS.write hb g1 rfl (Nat.le_refl _) (fun _ => rfl) (by rw [hp]; exact h6 rfl) ?_ (fun B' hB' => setRow_other w B B' _ (by rw [hp] at hB'; exact hB')) (setRow_size w B _) ?_
    · rw [hp]; exact below_setRow (Below.refl _ _) (Nat.le_refl _) _
    · rw [hp]
      have hv : vo (s.set id (some (.rows v' false esz (els.set i (splice cs j x.cells))))) = vo s := by
        funext q
        rw [vo_set (getB_lt hb)]
        split
        · rename_i hq; subst hq; exact g1.symm
        · rfl
      rw [hv]
      refine .rows _ _ _ _ B size _ ty (setRow_heap w B c _ ty (0, 0) h1) (by simp; omega) (by simpa using h3) (fun r hr => ?_) (fun k r hr q y hy => ?_) h6
      · rcases List.mem_or_eq_of_mem_set hr with hr | rfl
        · exact h4 r hr
        · rw [splice_length _ _ _ (by omega)]; exact hcs
      · rw [hrow]
        by_cases hki : k = i
        · subst hki
          simp [hilt] at hr; subst hr
          rw [splice_get _ _ _ _ (by omega)] at hy
          split at hy
          · rename_i hq
            obtain ⟨u, e1, e2⟩ := hcells.get hy
            rw [if_pos ⟨by omega, by simp; omega⟩, show k * esz + q - (k * esz + j) = q - j by omega]
            exact ⟨u, e1, e2, e2.cellV (List.all_eq_true.1 hsc y (List.mem_of_getElem? hy))⟩
          · rename_i hq
            rw [if_neg (by simp; omega)]
            exact h5 k cs hi q y hy
        · rw [List.getElem?_set_ne (Ne.symm hki)] at hr
          have hq : q < esz := by rw [← h4 r (List.mem_of_getElem? hr)]; exact (List.getElem?_eq_some_iff.1 hy).1
          rw [if_neg ?_]
          · exact h5 k r hr q y hy
          · simp only [Array.length_toList]
            intro hh
            rcases Nat.lt_or_gt_of_ne hki with h | h
            · have := Nat.mul_le_mul_right esz (show k + 1 ≤ i from h); rw [Nat.add_mul, Nat.one_mul] at this; omega
            · have := Nat.mul_le_mul_right esz (show i + 1 ≤ k from h); rw [Nat.add_mul, Nat.one_mul] at this; omega
end Go.Proofs.YtboekhenldifhaaGreat
