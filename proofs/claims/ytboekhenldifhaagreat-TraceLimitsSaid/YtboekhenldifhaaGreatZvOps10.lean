/- What writes memory, last part: a slice put together, clear. -/
import Derived.Test.YtboekhenldifhaaGreatZvMaps
set_option linter.unusedSimpArgs false
set_option linter.unusedVariables false
namespace Go.Proofs.YtboekhenldifhaaGreat
open Go.RowKit
variable {P : Program} {fo : Nat → Option FuncId} {K : Known} {ρ : Places} {w : World} {tr : FuncId → Option Nat} {base : Nat} {s s' : Store} {vv : Nat → Option (Nat × Nat)}

/-- A new row of cells that is known from the start. -/
theorem RS.freeze (hS : RS P fo base K ρ s w) (c : Array Value) (t : TypeId) (h1 : ∀ v ∈ c.toList, v.oneCell' = true) :
    ∃ K', RS P fo base K' ρ s (w.alloc (.cells c t)) ∧ Stp base K ρ s w K' ρ s (w.alloc (.cells c t)) ∧ (∀ B o v, K B o = some v → K' B o = some v) ∧ ∀ o v, c[o]? = some v → K' w.heap.size o = some v := by
  have hfresh : ∀ o, K w.heap.size o = none := fun o => by
    cases hk : K w.heap.size o with
    | none => rfl
    | some v =>
      obtain ⟨_, _, _, h1, _⟩ := hS.known _ _ _ hk
      have := (Array.getElem?_eq_some_iff.1 h1).1
      omega
  have hold : ∀ B, B < w.heap.size → (w.alloc (.cells c t)).heap[B]? = w.heap[B]? := fun B hB => Below.heap_alloc _ _ _ hB
  have hKK : ∀ B o v, K B o = some v → (if B = w.heap.size then c[o]? else K B o) = some v := fun B o v h => by
    by_cases hB : B = w.heap.size
    · subst hB; rw [hfresh] at h; cases h
    · rw [if_neg hB]; exact h
  refine ⟨fun B o => if B = w.heap.size then c[o]? else K B o, ⟨fun B o v h => ?_, fun id b hb => ?_, hS.inj, by have := hS.base; simp; omega, fun B o v h => ?_⟩,
    ⟨hKK, .refl, (Below.refl _ _).alloc hS.base _, fun B hB _ => hold B hB, fun id b hb _ => ⟨id, b, hb, rfl⟩, fun B o v h h' hB => ?_⟩, hKK, fun o v h => by simp [h]⟩
  · split at h
    · rename_i hB; subst hB
      exact ⟨c, t, (0, 0), World.alloc_heap_new w _, h⟩
    · obtain ⟨c', t', z, e1, e2⟩ := hS.known B o v h
      exact ⟨c', t', z, (hold B (Array.getElem?_eq_some_iff.1 e1).1).trans e1, e2⟩
  · obtain ⟨a1, a2⟩ := hS.blk id b hb
    refine ⟨a1.mono hKK .refl (hold _ a1.lt) (fun hn o => ?_), a2⟩
    have := a1.lt
    rw [if_neg (by omega)]; exact hn o
  · split at h
    · exact h1 v (by rw [← Array.getElem?_toList] at h; exact List.mem_of_getElem? h)
    · exact hS.one B o v h
  · rw [if_neg (by omega), h'] at h; cases h

/-- Rows that are filled, part by part. -/
def RRows (fo : Nat → Option FuncId) (K : Known) (ρ : Places) (vv : Nat → Option (Nat × Nat)) (esz : Nat) (rows : List (List V)) (cells : Array Value) : Prop :=
  cells.size = rows.length * esz ∧ (∀ r ∈ rows, r.length = esz) ∧ ∀ (i : Nat) r, rows[i]? = some r → ∀ (j : Nat) x, r[j]? = some x → ∃ v, cells[i * esz + j]? = some v ∧ RV fo K ρ vv x v
theorem row_in {i esz n j : Nat} (hi : i < n) (hj : j < esz) : i * esz + j < n * esz := by
  have := Nat.mul_le_mul_right esz (show i + 1 ≤ n from hi); rw [Nat.add_mul, Nat.one_mul] at this; omega
theorem fillRows_spec {esz : Nat} : ∀ (parts : List (Nat × Value)) (vparts : List (Nat × V)) (rows rs : List (List V)) (cells : Array Value), RRows fo K ρ vv esz rows cells → parts.length = vparts.length →
    (∀ (k i : Nat) (v : Value), parts[k]? = some (i, v) → ∃ x, vparts[k]? = some (i, x) ∧ RV fo K ρ vv x v) → fillRows esz rows vparts = some rs →
    ∃ cs, Instr.fill (fun i => some (i * esz, esz)) cells parts = some cs ∧ RRows fo K ρ vv esz rs cs ∧ rs.length = rows.length
  | [], [], rows, rs, cells, hR, _, _, h => by simp [fillRows] at h; subst h; exact ⟨cells, rfl, hR, rfl⟩
  | (i, v) :: parts, (i', x) :: vparts, rows, rs, cells, hR, hl, hp, h => by
    obtain ⟨x', h1, h2⟩ := hp 0 i v (by simp)
    simp at h1; obtain ⟨rfl, rfl⟩ := h1
    simp only [fillRows] at h
    split at h <;> try (cases h; done)
    rename_i hc
    obtain ⟨hk, hxl, hil⟩ := hc
    have hcs := h2.cells (by rintro rfl; simp [known] at hk)
    have hlen := hcs.length
    simp only [Array.length_toList] at hlen
    obtain ⟨r1, r2, r3⟩ := hR
    have hfit : i' * esz + esz ≤ cells.size := by
      rw [r1]; have := Nat.mul_le_mul_right esz (show i' + 1 ≤ rows.length from hil); rw [Nat.add_mul, Nat.one_mul] at this; omega
    have hfold : (v.cells.zipIdx.foldl (fun cs (p : Value × Nat) => cs.setIfInBounds (i' * esz + p.2) p.1) cells).toList = cells.toList.take (i' * esz) ++ v.cells.toList ++ cells.toList.drop (i' * esz + v.cells.toList.length) := by
      rw [← Array.foldl_toList, Array.toList_zipIdx, fold_set v.cells.toList (i' * esz) 0 cells (by simp; omega)]
      simp
    have hnew : RRows fo K ρ vv esz (rows.set i' x.cells) (v.cells.zipIdx.foldl (fun cs (p : Value × Nat) => cs.setIfInBounds (i' * esz + p.2) p.1) cells) := by
      refine ⟨?_, fun r hr => ?_, fun k r hr q y hy => ?_⟩
      · have := congrArg List.length hfold
        simp at this ⊢
        rw [this, ← r1]; omega
      · rcases List.mem_or_eq_of_mem_set hr with hr | rfl
        · exact r2 r hr
        · exact hxl
      · rw [← Array.getElem?_toList, hfold, seg_get _ _ _ _ (by simp; omega)]
        simp only [Array.length_toList, Array.getElem?_toList]
        by_cases hki : k = i'
        · subst hki
          simp [hil] at hr; subst hr
          obtain ⟨u, e1, e2⟩ := hcs.get hy
          have hq := (List.getElem?_eq_some_iff.1 hy).1
          rw [if_pos (by omega), show k * esz + q - k * esz = q by omega]
          exact ⟨u, by simpa using e1, e2⟩
        · rw [List.getElem?_set_ne (Ne.symm hki)] at hr
          have hq : q < esz := by rw [← r2 r (List.mem_of_getElem? hr)]; exact (List.getElem?_eq_some_iff.1 hy).1
          rw [if_neg ?_]
          · exact r3 k r hr q y hy
          · intro hh
            rcases Nat.lt_or_gt_of_ne hki with h | h
            · have := Nat.mul_le_mul_right esz (show k + 1 ≤ i' from h); rw [Nat.add_mul, Nat.one_mul] at this; omega
            · have := Nat.mul_le_mul_right esz (show i' + 1 ≤ k from h); rw [Nat.add_mul, Nat.one_mul] at this; omega
    obtain ⟨cs, e1, e2, e3⟩ := fillRows_spec parts vparts _ rs _ hnew (by simpa using hl) (fun k i v hk => by simpa using hp (k + 1) i v (by simpa using hk)) h
    refine ⟨cs, ?_, e2, by simpa using e3⟩
    simp only [Instr.fill]
    rw [if_neg (by simp; omega)]
    exact e1
  | [], _ :: _, _, _, _, _, hl, _, _ => by simp at hl
  | _ :: _, [], _, _, _, _, hl, _, _ => by simp at hl
theorem bslice_spec (htr : ∀ g f, tr g = some f → fo f = some g) {t e : TypeId} {esz n : Nat} {z : List V} {parts : List (Nat × Value)} {vparts : List (Nat × V)} {rs : List (List V)} {es : List D} {fz : List Nat} (hS : RS P fo base K ρ s w)
    (hu : P.underlying t = some (.slice e)) (hs : sizeT P e = some esz) (hz : zeroT P tr e = some z) (hn : n * esz ≤ 2 ^ 20) (hzl : z.length = esz) (h0 : 0 < esz) (hl : parts.length = vparts.length)
    (hp : ∀ (k i : Nat) (v : Value), parts[k]? = some (i, v) → ∃ x, vparts[k]? = some (i, x) ∧ RV fo K ρ (vo s) x v) (h : fillRows esz (zeroRows n z) vparts = some rs) (hsc : rs.all (·.all scalarV) = true) (hd : rowsD s depthD rs = some (es, fz)) :
    ∃ v K' w', (Instr.buildSlice t n parts.toArray).run P w = .ok v w' ∧ RS P fo base K' ρ (closeB s fz) w' ∧ Stp base K ρ s w K' ρ (closeB s fz) w' ∧ RV fo K' ρ (vo (closeB s fz)) (.lit es) v := by
  obtain ⟨zv, z1, z2⟩ := zeroT_spec (fo := fo) (K := K) (ρ := ρ) (vv := vo s) htr hz w
  have hsz : zv.cells.size = esz := by rw [← hzl, z2.length]; simp
  let zero : Array Value := if n * esz = 0 then #[] else zv.cells
  have hR0 : RRows fo K ρ (vo s) esz (zeroRows n z) ((Array.range (n * esz)).map (zero[· % zero.size]!)) := by
    refine ⟨by simp [zeroRows], fun r hr => by simp [zeroRows] at hr; rw [hr.2, hzl], fun i r hi j x hj => ?_⟩
    simp only [zeroRows, List.getElem?_replicate] at hi
    split at hi <;> try (cases hi; done)
    rename_i hil
    injection hi with hi; subst hi
    obtain ⟨u, a1, a2⟩ := z2.get hj
    have hjl := (List.getElem?_eq_some_iff.1 hj).1
    have hz0 : zero = zv.cells := by
      have : n * esz ≠ 0 := by have := row_in (esz := esz) hil (show 0 < esz from h0); omega
      simp [zero, this]
    refine ⟨zv.cells[j]!, by rw [hz0]; exact zeros_get hsz (by omega) (by omega), ?_⟩
    have : zv.cells[j]! = u := by
      rw [Array.getElem?_toList] at a1
      simp [getElem!_def, a1]
    rw [this]; exact a2
  obtain ⟨cs, f1, ⟨f2, f3, f4⟩, f5⟩ := fillRows_spec parts vparts _ rs _ hR0 hl hp h
  have hrl : rs.length = n := by rw [f5]; simp [zeroRows]
  have hflat : RVs fo K ρ (vo s) rs.flatten cs.toList := rows_flat f3 (by simpa using f2) fun i r hi j x hj => by
    obtain ⟨v, e1, e2⟩ := f4 i r hi j x hj
    exact ⟨v, by simpa using e1, e2⟩
  have hone : ∀ v ∈ cs.toList, v.oneCell' = true := fun v hv => by
    obtain ⟨k, hk, rfl⟩ := List.getElem_of_mem hv
    have hk' : k < rs.flatten.length := by rw [hflat.length]; exact hk
    obtain ⟨u, e1, e2⟩ := hflat.get (List.getElem?_eq_getElem hk')
    rw [List.getElem?_eq_getElem hk] at e1; injection e1 with e1
    rw [e1]
    have hm := List.getElem_mem hk'
    obtain ⟨r, hr, hx⟩ := List.mem_flatten.1 hm
    exact e2.cellV (List.all_eq_true.1 (List.all_eq_true.1 hsc r hr) _ hx)
  obtain ⟨K1, c1, c2, c3, c4, c5, c6⟩ := closeB_spec fz hS
  obtain ⟨d1, d2, d3⟩ := rowsDW_spec (toD_spec rfl c4 depthD) (hflat.mono c2 .refl) hone hd (fun _ h => h)
  obtain ⟨K2, g1, g2, g3, g4⟩ := c1.freeze cs e hone
  refine ⟨.slice (some ⟨w.heap.size, 0, none⟩) n n, K2, _, ?_, g1, (Stp.close (ids := fz) c2 c3 c6).trans g2, ?_⟩
  · simp only [Instr.buildSlice, Sem.run_bind, run_underlying hu, Result.andThen_ok, run_sizeT hs]
    rw [if_neg (by omega)]
    by_cases hq : n * esz = 0
    · rw [if_pos hq]
      simp only [zero, if_pos hq] at f1
      simp only [Sem.run_bind, Sem.run_pure, Result.andThen_ok]
      generalize hq : Instr.fill _ _ _ = q
      have : q = some cs := hq.symm.trans f1
      subst this
      simp [newRow, Sem.run_bind]
    · rw [if_neg hq]
      simp only [zero, if_neg hq] at f1
      simp only [Sem.run_bind, z1, Sem.run_pure, Result.andThen_ok]
      generalize hq : Instr.fill _ _ _ = q
      have : q = some cs := hq.symm.trans f1
      subst this
      simp [newRow, Sem.run_bind]
  · have hlen : es.length = n := by rw [d2, hrl]
    have hrd : RD fo K2 (.slice es) (.slice (some ⟨w.heap.size, 0, none⟩) es.length es.length) := by
      by_cases h0' : es = []
      · subst h0'; exact .sliceE _ _ (by simp)
      · exact .slice es _ 0 _ esz cs.toList h0' h0 (d3 esz f3) (d1.mono g3) (fun j v hv => by rw [Nat.zero_add]; exact g4 j v (by simpa using hv)) (Nat.le_refl _)
    have := RV.lit (fo := fo) (K := K2) (ρ := ρ) (vv := vo (closeB s fz)) es ⟨w.heap.size, 0, none⟩ hrd
    rw [hlen] at this
    exact this

/-- The same in a block of its own, which may be written. -/
theorem mslice_spec (htr : ∀ g f, tr g = some f → fo f = some g) {t e : TypeId} {esz n : Nat} {z : List V} {parts : List (Nat × Value)} {vparts : List (Nat × V)} {rs : List (List V)} {id : Nat} (hS : RS P fo base K ρ s w)
    (hu : P.underlying t = some (.slice e)) (hs : sizeT P e = some esz) (hz : zeroT P tr e = some z) (hn : n * esz ≤ 2 ^ 20) (hzl : z.length = esz) (h0 : 0 < esz) (hl : parts.length = vparts.length)
    (hp : ∀ (k i : Nat) (v : Value), parts[k]? = some (i, v) → ∃ x, vparts[k]? = some (i, x) ∧ RV fo K ρ (vo s) x v) (h : fillRows esz (zeroRows n z) vparts = some rs) (hsc : rs.all (·.all scalarV) = true) (hd : newB s id (.rows 0 false esz rs) = some s') :
    ∃ v ρ' w', (Instr.buildSlice t n parts.toArray).run P w = .ok v w' ∧ RS P fo base K ρ' s' w' ∧ Stp base K ρ s w K ρ' s' w' ∧ RV fo K ρ' (vo s') (.ms id 0 0 n) v := by
  obtain ⟨n1, n2, rfl⟩ := newB_spec hd
  obtain ⟨zv, z1, z2⟩ := zeroT_spec (fo := fo) (K := K) (ρ := ρ) (vv := vo s) htr hz w
  have hsz : zv.cells.size = esz := by rw [← hzl, z2.length]; simp
  let zero : Array Value := if n * esz = 0 then #[] else zv.cells
  have hR0 : RRows fo K ρ (vo s) esz (zeroRows n z) ((Array.range (n * esz)).map (zero[· % zero.size]!)) := by
    refine ⟨by simp [zeroRows], fun r hr => by simp [zeroRows] at hr; rw [hr.2, hzl], fun i r hi j x hj => ?_⟩
    simp only [zeroRows, List.getElem?_replicate] at hi
    split at hi <;> try (cases hi; done)
    rename_i hil
    injection hi with hi; subst hi
    obtain ⟨u, a1, a2⟩ := z2.get hj
    have hjl := (List.getElem?_eq_some_iff.1 hj).1
    have hz0 : zero = zv.cells := by
      have : n * esz ≠ 0 := by have := row_in (esz := esz) hil (show 0 < esz from h0); omega
      simp [zero, this]
    refine ⟨zv.cells[j]!, by rw [hz0]; exact zeros_get hsz (by omega) (by omega), ?_⟩
    have : zv.cells[j]! = u := by
      rw [Array.getElem?_toList] at a1
      simp [getElem!_def, a1]
    rw [this]; exact a2
  obtain ⟨cs, f1, ⟨f2, f3, f4⟩, f5⟩ := fillRows_spec parts vparts _ rs _ hR0 hl hp h
  have hrl : rs.length = n := by rw [f5]; simp [zeroRows]
  obtain ⟨h1, h2⟩ := rows_new (t := e) (c := cs) (els := rs) (esz := esz) hS n1 n2 (Nat.le_of_eq f2.symm) f3 (fun i r hi j x hj => by
    obtain ⟨v, e1, e2⟩ := f4 i r hi j x hj
    exact ⟨v, e1, e2, e2.cellV (List.all_eq_true.1 (List.all_eq_true.1 hsc r (List.mem_of_getElem? hi)) _ (List.mem_of_getElem? hj))⟩)
  refine ⟨.slice (some ⟨w.heap.size, 0, none⟩) n n, _, _, ?_, h1, h2, ?_⟩
  · simp only [Instr.buildSlice, Sem.run_bind, run_underlying hu, Result.andThen_ok, run_sizeT hs]
    rw [if_neg (by omega)]
    by_cases hq : n * esz = 0
    · rw [if_pos hq]
      simp only [zero, if_pos hq] at f1
      simp only [Sem.run_bind, Sem.run_pure, Result.andThen_ok]
      generalize hq : Instr.fill _ _ _ = q
      have : q = some cs := hq.symm.trans f1
      subst this
      simp [newRow, Sem.run_bind]
    · rw [if_neg hq]
      simp only [zero, if_neg hq] at f1
      simp only [Sem.run_bind, z1, Sem.run_pure, Result.andThen_ok]
      generalize hq : Instr.fill _ _ _ = q
      have : q = some cs := hq.symm.trans f1
      subst this
      simp [newRow, Sem.run_bind]
  · refine .ms _ _ _ _ 0 esz _ _ _ (by rw [vo_set n1]; simp) fun _ => ⟨rfl, by simp [placed], rfl, Nat.le_refl _, ?_⟩
    have f2' := f2
    rw [hrl] at f2'
    simp [placed, f2']
theorem clear_spec (htr : ∀ g f, tr g = some f → fo f = some g) {t e : TypeId} {esz : Nat} {ty : TypeId} {z : List V} {x : V} {v : Value} {tys : Array TypeId} (hS : RS P fo base K ρ s w) (ht : tys[0]? = some t) (hu : P.underlying t = some (.slice e)) (hz : zeroT P tr e = some z)
    (h0 : 0 < z.length) (hx : RV fo K ρ (vo s) x v) (h : clearV s z x = some s') : ∃ w', (Builtin.clear_ tys ty #[v]).run P w = .ok (.tuple #[]) w' ∧ RS P fo base K ρ s' w' ∧ Stp base K ρ s w K ρ s' w' := by
  have none_case : ∀ a c, v = .slice a 0 c → s' = s → ∃ w', (Builtin.clear_ tys ty #[v]).run P w = .ok (.tuple #[]) w' ∧ RS P fo base K ρ s' w' ∧ Stp base K ρ s w K ρ s' w' := fun a c hv hs => by
    subst hv; subst hs
    exact ⟨w, by cases a <;> simp [Builtin.clear_, ht, Sem.run_bind, run_underlying hu, Result.andThen_ok], hS, .refl⟩
  unfold clearV at h
  split at h <;> try (cases h; done)
  · injection h with h; cases hx; exact none_case _ _ rfl h.symm
  · injection h with h; cases hx; exact none_case _ _ rfl h.symm
  · injection h with h
    cases hx with | d _ _ hx =>
    cases hx with
    | sliceE a c hc0 => exact none_case _ _ rfl h.symm
    | slice => simp_all
  · rename_i id ver off len
    split at h <;> try (cases h; done)
    rename_i v' esz els hb
    split at h <;> try (cases h; done)
    rename_i hc
    obtain ⟨rfl, rfl, hle, hsc⟩ := hc
    injection h with h; subst h
    obtain ⟨ad, n, cap, v0, e', rfl, g1, g2⟩ := hx.ms_inv
    have g1' := g1
    rw [vo_rows hb] at g1'; injection g1' with g1'; injection g1' with q1 q2; subst q1; subst q2
    obtain ⟨_, rfl, rfl, _, _⟩ := g2 (Nat.le_refl _)
    obtain ⟨zv, z1, z2⟩ := zeroT_spec (fo := fo) (K := K) (ρ := ρ) (vv := vo s) htr hz w
    have hsz : zv.cells.size = z.length := by rw [z2.length]; simp
    have hv : ∀ els', vo (s.set id (some (.rows v' false z.length els'))) = vo s := fun els' => by
      funext q
      rw [vo_set (getB_lt hb)]
      split
      · rename_i hq; subst hq; exact g1.symm
      · rfl
    have hB := (hS.blk id _ hb).1
    have hbase := (hS.blk id _ hb).2
    generalize hp : ρ id = p at hB
    cases hB with
    | rows _ _ _ _ B size c cty h1 h2 h3 h4 h5 h6 =>
      have hzc : (Builtin.zeroCells zv.cells n).toList.length = n * z.length := by simp [Builtin.zeroCells, hsz]
      have hend : off * z.length + n * z.length ≤ size := by
        have := Nat.mul_le_mul_right z.length hle; rw [Nat.add_mul] at this; omega
      have hzget : ∀ i j, i < n → j < z.length → (Builtin.zeroCells zv.cells n).toList[i * z.length + j]? = some zv.cells[j]! := fun i j hi hj => by
        have := zeros_get (zero := zv.cells) (l := n) (esz := z.length) hsz hi hj
        simp only [Builtin.zeroCells, Array.getElem?_toList, hsz] at this ⊢
        exact this
      have hone : ∀ u ∈ (Builtin.zeroCells zv.cells n).toList, u.oneCell' = true := fun u hu' => by
        simp only [Builtin.zeroCells, Array.toList_map, List.mem_map, hsz] at hu'
        obtain ⟨k, hk, rfl⟩ := hu'
        have hlt : k % z.length < z.length := Nat.mod_lt _ h0
        obtain ⟨u, a1, a2⟩ := z2.get (List.getElem?_eq_getElem hlt)
        have : zv.cells[k % z.length]! = u := by
          rw [Array.getElem?_toList] at a1
          simp [getElem!_def, a1]
        rw [this]
        exact a2.cellV (List.all_eq_true.1 hsc _ (List.getElem_mem hlt))
      by_cases hn0 : n = 0
      · subst hn0
        have hels : els.take off ++ List.replicate 0 z ++ els.drop (off + 0) = els := by simp
        have hset : setB s id (.rows v' false z.length els) = s := by
          unfold setB
          refine List.ext_getElem? fun k => ?_
          rw [List.getElem?_set]
          split
          · rename_i hk
            subst hk
            have hlt := getB_lt hb
            rw [if_pos hlt]
            unfold getB at hb
            cases hq : s[id]? with
            | none => simp [hq] at hb
            | some o => simp [hq] at hb; rw [hb]
          · rfl
        rw [← hp]
        exact none_case _ _ rfl (by rw [hels]; exact hset)
      have hrun := run_storeCells_at P B (off * z.length) cty (Builtin.zeroCells zv.cells n).toList 0 c w h1 (by omega) hone
      simp only [Nat.add_zero] at hrun
      have hrun' : (Builtin.clear_ tys ty #[.slice (some ⟨B, off * z.length, none⟩) n cap]).run P w = .ok (.tuple #[]) (w.setRow B (c.toList.take (off * z.length) ++ (Builtin.zeroCells zv.cells n).toList ++ c.toList.drop (off * z.length + (Builtin.zeroCells zv.cells n).toList.length)).toArray) := by
        obtain ⟨n', rfl⟩ : ∃ n', n = n' + 1 := ⟨n - 1, by omega⟩
        simp [Builtin.clear_, ht, Sem.run_bind, run_underlying hu, Result.andThen_ok, z1, hrun]
      refine ⟨_, hrun', ?_⟩
      have hrow : ∀ k, (c.toList.take (off * z.length) ++ (Builtin.zeroCells zv.cells n).toList ++ c.toList.drop (off * z.length + (Builtin.zeroCells zv.cells n).toList.length)).toArray[k]? =
          if off * z.length ≤ k ∧ k < off * z.length + n * z.length then (Builtin.zeroCells zv.cells n).toList[k - off * z.length]? else c[k]? := by
        intro k
        rw [List.getElem?_toArray, seg_get _ _ _ _ (by simp at hzc ⊢; omega), hzc]
        simp
      refine hS.write hb g1 rfl (Nat.le_refl _) (fun _ => rfl) (by rw [hp]; exact h6 rfl) ?_ (fun B' hB' => setRow_other w B B' _ (by rw [hp] at hB'; exact hB')) (setRow_size w B _) ?_
      · rw [hp]; exact below_setRow (Below.refl _ _) (Nat.le_refl _) _
      · rw [hp, hv]
        refine .rows _ _ _ _ B size _ cty (setRow_heap w B c _ cty (0, 0) h1) (by simp at hzc ⊢; omega) (by simp; have := Nat.mul_le_mul_right z.length (show off + (n + (els.length - (off + n))) ≤ els.length by omega); rw [Nat.min_eq_left (by omega)]; omega) (fun r hr => ?_) (fun k r hr q y hy => ?_) h6
        · simp only [List.mem_append, List.mem_replicate] at hr
          rcases hr with (hr | hr) | hr
          · exact h4 r (List.mem_of_mem_take hr)
          · rw [hr.2]
          · exact h4 r (List.mem_of_mem_drop hr)
        · rw [hrow]
          have hseg := seg_get els (List.replicate n z) off k (by simp; omega)
          simp only [List.length_replicate] at hseg
          rw [hseg] at hr
          split at hr
          · rename_i hk
            simp only [List.getElem?_replicate] at hr
            split at hr <;> try (cases hr; done)
            injection hr with hr; subst hr
            have hq := (List.getElem?_eq_some_iff.1 hy).1
            have e1 : k * z.length + q - off * z.length = (k - off) * z.length + q := by
              rw [Nat.sub_mul]; have := Nat.mul_le_mul_right z.length hk.1; omega
            have e2 := row_in (esz := z.length) (show k < off + n from hk.2) hq
            rw [Nat.add_mul] at e2
            have e3 := Nat.mul_le_mul_right z.length hk.1
            rw [if_pos ⟨by omega, e2⟩, e1, hzget _ _ (by omega) hq]
            obtain ⟨u, a1, a2⟩ := z2.get hy
            have : zv.cells[q]! = u := by
              rw [Array.getElem?_toList] at a1
              simp [getElem!_def, a1]
            exact ⟨_, rfl, this ▸ a2, this ▸ a2.cellV (List.all_eq_true.1 hsc y (List.mem_of_getElem? hy))⟩
          · rename_i hk
            have hq : q < z.length := by rw [← h4 r (List.mem_of_getElem? hr)]; exact (List.getElem?_eq_some_iff.1 hy).1
            rw [if_neg ?_]
            · exact h5 k r hr q y hy
            · intro hh
              rcases Nat.lt_or_ge k off with h | h
              · have := row_in (esz := z.length) h hq; omega
              · have h' : off + n ≤ k := by omega
                have := Nat.mul_le_mul_right z.length h'; rw [Nat.add_mul] at this; omega
end Go.Proofs.YtboekhenldifhaaGreat
