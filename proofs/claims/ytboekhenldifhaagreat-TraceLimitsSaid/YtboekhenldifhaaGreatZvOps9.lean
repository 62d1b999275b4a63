/- What writes memory, third part: append. -/
import Derived.Test.YtboekhenldifhaaGreatZvOps8
set_option linter.unusedSimpArgs false
set_option linter.unusedVariables false
namespace Go.Proofs.YtboekhenldifhaaGreat
open Go.RowKit
variable {P : Program} {fo : Nat → Option FuncId} {K : Known} {ρ : Places} {w : World} {tr : FuncId → Option Nat} {base : Nat} {s s' : Store} {vv : Nat → Option (Nat × Nat)}

theorem rows_flat {esz : Nat} : ∀ {rows : List (List V)} {L : List Value}, (∀ r ∈ rows, r.length = esz) → L.length = rows.length * esz →
    (∀ (i : Nat) r, rows[i]? = some r → ∀ (j : Nat) x, r[j]? = some x → ∃ v, L[i * esz + j]? = some v ∧ RV fo K ρ vv x v) → RVs fo K ρ vv rows.flatten L
  | [], L, _, hl, _ => by
    have : L = [] := by simpa using hl
    subst this; exact .nil
  | r :: rows, L, hw, hl, h => by
    have hr := hw r (by simp)
    simp only [List.length_cons, Nat.succ_mul] at hl
    rw [List.flatten_cons, ← List.take_append_drop esz L]
    refine RVs.append (.of_get (by simp; omega) fun j x v hx hv => ?_) (rows_flat (fun r hr => hw r (by simp [hr])) (by simp; omega) fun i r' hi j x hx => ?_)
    · obtain ⟨u, e1, e2⟩ := h 0 r (by simp) j x hx
      simp only [List.getElem?_take] at hv
      split at hv <;> try (cases hv; done)
      simp at e1; rw [hv] at e1; injection e1 with e1; exact e1 ▸ e2
    · obtain ⟨u, e1, e2⟩ := h (i + 1) r' (by simpa using hi) j x hx
      exact ⟨u, by rw [List.getElem?_drop, ← e1]; congr 1; rw [Nat.add_mul]; omega, e2⟩
theorem flat_rows {esz : Nat} : ∀ {rows : List (List V)} {L : List Value}, (∀ r ∈ rows, r.length = esz) → RVs fo K ρ vv rows.flatten L →
    L.length = rows.length * esz ∧ ∀ (i : Nat) r, rows[i]? = some r → ∀ (j : Nat) x, r[j]? = some x → ∃ v, L[i * esz + j]? = some v ∧ RV fo K ρ vv x v
  | [], L, _, h => by cases h; simp
  | r :: rows, L, hw, h => by
    have hr := hw r (by simp)
    have hl := h.length
    rw [List.flatten_cons] at h hl
    simp only [List.length_append] at hl
    have h1 := h.take esz
    have h2 := h.drop esz
    rw [← hr, List.take_left'] at h1
    rw [← hr, List.drop_left'] at h2
    all_goals (try rfl)
    rw [hr] at h1 h2
    obtain ⟨g1, g2⟩ := flat_rows (fun r hr => hw r (by simp [hr])) h2
    simp at g1
    refine ⟨by simp [Nat.succ_mul]; omega, fun i r' hi j x hx => ?_⟩
    cases i with
    | zero =>
      simp at hi; subst hi
      obtain ⟨v, e1, e2⟩ := h1.get hx
      simp only [List.getElem?_take] at e1
      split at e1 <;> try (cases e1; done)
      exact ⟨v, by simpa using e1, e2⟩
    | succ i =>
      obtain ⟨v, e1, e2⟩ := g2 i r' (by simpa using hi) j x hx
      exact ⟨v, by rw [← e1, List.getElem?_drop]; congr 1; rw [Nat.add_mul]; omega, e2⟩

/-- The cells that a slice shows. -/
theorem rows_read {esz : Nat} {y : V} {v : Value} {ys : List (List V)} (hS : RS P fo base K ρ s w) (h0 : 0 < esz) (hy : RV fo K ρ (vo s) y v) (h : rowsOf s esz y = some ys) :
    ∃ a cap vs, v = .slice a ys.length cap ∧ ys.length ≤ cap ∧ (∀ w' : World, w'.heap = w.heap → (Builtin.firstCells esz ys.length v).run P w' = .ok vs w') ∧ RVs fo K ρ (vo s) ys.flatten vs.toList ∧ (∀ r ∈ ys, r.length = esz) ∧ (∀ v ∈ vs.toList, v.oneCell' = true) := by
  have empty : ∀ a cap, v = .slice a 0 cap → ys = [] → ∃ a cap vs, v = .slice a ys.length cap ∧ ys.length ≤ cap ∧ (∀ w' : World, w'.heap = w.heap → (Builtin.firstCells esz ys.length v).run P w' = .ok vs w') ∧ RVs fo K ρ (vo s) ys.flatten vs.toList ∧ (∀ r ∈ ys, r.length = esz) ∧ (∀ v ∈ vs.toList, v.oneCell' = true) := by
    rintro a cap rfl rfl
    refine ⟨a, cap, #[], rfl, by simp, fun w' _ => ?_, .nil, by simp, by simp⟩
    cases a <;> simp [Builtin.firstCells, loadCells, loadCellsFrom]
  have imm : ∀ es, (y = .d (.slice es) ∨ y = .lit es) → (if wide esz es then some (es.map fun e => e.cells.map V.d) else none) = some ys → ∃ a cap vs, v = .slice a ys.length cap ∧ ys.length ≤ cap ∧ (∀ w' : World, w'.heap = w.heap → (Builtin.firstCells esz ys.length v).run P w' = .ok vs w') ∧ RVs fo K ρ (vo s) ys.flatten vs.toList ∧ (∀ r ∈ ys, r.length = esz) ∧ (∀ v ∈ vs.toList, v.oneCell' = true) := by
    intro es hes hq
    split at hq <;> try (cases hq; done)
    rename_i hw
    injection hq with hq
    by_cases hz : es = []
    · subst hz
      have hd := hy.slice_inv hes
      cases hd with
      | sliceE a cap hc0 => exact empty a cap rfl (by simpa using hq.symm)
      | slice _ _ _ _ _ _ h0 => exact absurd rfl h0
    · obtain ⟨d, hd⟩ := List.exists_mem_of_ne_nil es hz
      obtain ⟨k, hk, rfl⟩ := List.getElem_of_mem hd
      obtain ⟨B, o, cap, esz', vs, rfl, g1, g2, g3, g4, g5⟩ := (hy.slice_inv hes).slice_at (List.getElem?_eq_getElem hk)
      have he : esz' = esz := by
        have h1 := g3 _ hd
        simp only [wide, List.all_eq_true, beq_iff_eq] at hw
        rw [← h1, hw _ hd]
      subst he
      have hl : vs.length = es.length * esz' := by rw [← g4.length, flat_length g3]
      subst hq
      refine ⟨some ⟨B, o, none⟩, cap, vs.toArray, by simp, by simpa using g1, fun w' hw' => ?_, ?_, by simpa using g3, fun v hv => ?_⟩
      · have := (hS.world hw').kread (n := es.length * esz') g5 (by omega)
        simp only [Builtin.firstCells, List.length_map]
        rw [this, List.take_of_length_le (by omega)]
      · have : (es.map fun e => e.cells.map V.d).flatten = (es.flatMap D.cells).map V.d := by
          simp [List.flatMap, List.map_flatten]; rfl
        rw [this]
        exact RVs.of_d g4
      · obtain ⟨k, hk, rfl⟩ := List.getElem_of_mem hv
        exact hS.one _ _ _ (g5 k _ (List.getElem?_eq_getElem hk))
  unfold rowsOf at h
  split at h
  · injection h with h; cases hy; exact empty _ _ rfl h.symm
  · injection h with h; cases hy; exact empty _ _ rfl h.symm
  · injection h with h; cases hy; exact empty _ _ rfl h.symm
  · exact imm _ (.inl rfl) h
  · exact imm _ (.inr rfl) h
  · rename_i id ver off len
    obtain ⟨a, n, cap, v0, e', rfl, g1, g2⟩ := hy.ms_inv
    split at h <;> try (cases h; done)
    rename_i v' ro n' els hb
    split at h <;> try (cases h; done)
    rename_i hc
    obtain ⟨rfl, rfl, hle⟩ := hc
    injection h with h; subst h
    rw [vo_rows hb] at g1; injection g1 with g1; injection g1 with q1 q2; subst q1; subst q2
    obtain ⟨_, rfl, rfl, k1, k2⟩ := g2 (Nat.le_refl _)
    have hB := (hS.blk id _ hb).1
    generalize hp : ρ id = p at hB k2 ⊢
    cases hB with
    | rows _ _ _ _ B size c ty h1 h2 h3 h4 h5 h6 =>
      have hlen : ((els.drop off).take n).length = n := by simp; omega
      have hmul : (off + n) * n' ≤ els.length * n' := Nat.mul_le_mul_right _ hle
      rw [Nat.add_mul] at hmul
      have hLl : ((c.toList.drop (off * n')).take (n * n')).length = n * n' := by simp; omega
      refine ⟨_, cap, ((c.toList.drop (off * n')).take (n * n')).toArray, by rw [hlen], by omega, fun w' hw' => ?_, ?_, fun r hr => h4 r (List.mem_of_mem_drop (List.mem_of_mem_take hr)), fun v hv => ?_⟩
      · have := run_loadCells_list (P := P) w' ⟨B, off * n', none⟩ ((c.toList.drop (off * n')).take (n * n')) (fun j v hv => by
          rw [add_addr]
          simp only [List.getElem?_take, List.getElem?_drop] at hv
          split at hv <;> try (cases hv; done)
          exact row_cell (by rw [hw']; exact h1) (by simpa using hv))
        rw [hLl] at this
        simp only [Builtin.firstCells, hlen]
        exact this
      · refine rows_flat (esz := n') (fun r hr => h4 r (List.mem_of_mem_drop (List.mem_of_mem_take hr))) (by rw [hLl, hlen]) fun i r hi j x hx => ?_
        simp only [List.getElem?_take, List.getElem?_drop] at hi
        split at hi <;> try (cases hi; done)
        rename_i hin
        obtain ⟨u, e1, e2, _⟩ := h5 _ r hi j x hx
        have hj : j < n' := by rw [← h4 r (List.mem_of_getElem? hi)]; exact (List.getElem?_eq_some_iff.1 hx).1
        have : i * n' + j < n * n' := by
          have := Nat.mul_le_mul_right n' (show i + 1 ≤ n from hin); rw [Nat.add_mul, Nat.one_mul] at this; omega
        refine ⟨u, ?_, e2⟩
        simp only [List.getElem?_take, List.getElem?_drop, this, if_true]
        rw [← e1, Nat.add_mul]
        simp [Nat.add_assoc]
      · have hm := List.mem_of_mem_drop (List.mem_of_mem_take hv)
        obtain ⟨k, hk, rfl⟩ := List.getElem_of_mem hv
        have hk' : k < n * n' := by rw [← hLl]; exact hk
        have hi : off + k / n' < els.length := by
          have : k / n' < n := Nat.div_lt_of_lt_mul (by rw [Nat.mul_comm]; exact hk')
          omega
        have hj : k % n' < els[off + k / n'].length := by rw [h4 _ (List.getElem_mem hi)]; exact Nat.mod_lt _ h0
        obtain ⟨u, e1, _, e3⟩ := h5 _ _ (List.getElem?_eq_getElem hi) _ _ (List.getElem?_eq_getElem hj)
        have : (off + k / n') * n' + k % n' = off * n' + k := by
          rw [Nat.add_mul, Nat.add_assoc, Nat.mul_comm (k / n'), Nat.div_add_mod]
        rw [this] at e1
        have e4 : ((c.toList.drop (off * n')).take (n * n'))[k]? = some u := by
          rw [List.getElem?_take, if_pos hk', List.getElem?_drop, Array.getElem?_toList]; exact e1
        rw [List.getElem?_eq_getElem hk] at e4
        injection e4 with e4
        rw [e4]; exact e3
  · cases h

/-- A slice that has grown beyond its array. -/
theorem nextcap_le (need cap : Nat) (h : cap < need) : Builtin.nextslicecap need cap ≤ 2 * need + 768 := by
  have grow : ∀ (r c : Nat), c < need + need / 4 + 192 + 1 → Builtin.growBy need r c ≤ 2 * need + 768 := by
    intro r
    induction r with
    | zero => intro c hc; simp [Builtin.growBy]; omega
    | succ r ih =>
      intro c hc
      simp only [Builtin.growBy]
      split
      · omega
      · exact ih _ (by omega)
  unfold Builtin.nextslicecap
  split
  · omega
  · split
    · omega
    · exact grow 4 cap (by omega)

/-- The append of the model, where the array holds it. -/
theorem append_fits {sT xT ty e e' : TypeId} {esz : Nat} {a : Option Addr} {len cap n : Nat} {y : Value} {new : Array Value} (hu : P.underlying sT = some (.slice e)) (hu' : P.underlying xT = some (.slice e')) (hs : sizeT P e = some esz)
    (hy : ∃ b cy, y = .slice b n cy) (hnew : (Builtin.firstCells esz n y).run P w = .ok new w) (hfit : len + n ≤ cap) :
    (Builtin.append_ #[sT, xT] ty #[.slice a len cap, y]).run P w = ((match a with | some a => storeCells (a.add (len * esz)) new.toList | none => pure () : Sem Unit).run P w).andThen fun _ w' => .ok (.slice a (len + n) cap) w' := by
  obtain ⟨b, cy, rfl⟩ := hy
  simp only [Builtin.append_]
  simp [run_underlying hu, run_underlying hu', run_sizeT hs, Builtin.lenOf, hnew, hfit]
  cases a <;> simp

/-- The append of the model, where a new array is made. -/
theorem append_grows {sT xT ty e e' : TypeId} {esz bytes : Nat} {a : Option Addr} {len cap n : Nat} {y : Value} {old new : Array Value} {z : List V} (hu : P.underlying sT = some (.slice e)) (hu' : P.underlying xT = some (.slice e')) (hs : sizeT P e = some esz) (hb : bytesT P e = some bytes)
    (hz : zeroT P tr e = some z) (hzl : z.length = esz) (hy : ∃ b cy, y = .slice b n cy)
    (hold : ∀ w', w'.heap = w.heap → (Builtin.firstCells esz len (.slice a len cap)).run P w' = .ok old w') (hnew : ∀ w', w'.heap = w.heap → (Builtin.firstCells esz n y).run P w' = .ok new w')
    (hfit : cap < len + n) (hr : roomy (len + n) bytes = true) :
    ∃ (w' : World) (newCap : Nat) (rest : Array Value), (Builtin.append_ #[sT, xT] ty #[.slice a len cap, y]).run P w = .ok (.slice (some ⟨w.heap.size, 0, none⟩) (len + n) newCap) (w'.alloc (.cells (old ++ new ++ rest) e)) ∧
      w'.heap = w.heap ∧ w'.os = w.os ∧ w'.tape = w.tape ∧ w'.output = w.output ∧ len + n ≤ newCap ∧ rest.size = (newCap - (len + n)) * esz := by
  obtain ⟨b, cy, rfl⟩ := hy
  obtain ⟨r1, r2⟩ := roomy_spec hr
  obtain ⟨i, b1, b2⟩ := run_bytesT hb w
  have hinfo : P.info? e = some i := by
    unfold typeInfo at b1
    simp [Sem.run_bind] at b1
    split at b1 <;> simp_all
  have hbb : bytes * (2 * (len + n) + 768) ≤ 2 ^ 47 := by rw [Nat.mul_comm]; exact r1
  have hnc : Builtin.nextslicecap (len + n) cap * bytes ≤ 2 ^ 47 := by
    have := Nat.mul_le_mul_right bytes (nextcap_le (len + n) cap hfit)
    omega
  obtain ⟨v, z1⟩ : ∃ v, i.zero = some v := by
    unfold zeroT at hz
    cases hq : i.zero with
    | none => simp [hinfo, hq] at hz
    | some v => exact ⟨v, rfl⟩
  have z2 : v.cells.size = z.length := by
    unfold zeroT at hz
    simp [hinfo, z1] at hz
    rw [← hz]; simp
  have hzv : ∀ w, (zeroValue e).run P w = .ok v w := fun w => by simp [zeroValue, typeInfo, hinfo, z1]
  let w' : World := { w with drawn := w.drawn + 1 }
  let nc := Question.cut (.appendCap (len + n) cap e) (w.tape w.drawn (.appendCap (len + n) cap e))
  have hch : (choose (.appendCap (len + n) cap e)).run P w = .ok nc w' := by
    simp [choose, Sem.run, Question.forced, nc, w']
  have hle : len + n ≤ nc := by simp only [nc, Question.cut]; omega
  have hroom : ∀ (w : World) k, (askRoom k).run P w = .ok () w := fun w k => by unfold askRoom; split <;> rfl
  refine ⟨w', nc, Builtin.zeroCells v.cells (nc - (len + n)), ?_, rfl, rfl, rfl, rfl, hle, by simp [Builtin.zeroCells, z2, hzl]⟩
  have ho := hold w' rfl
  have hn := hnew w' rfl
  have hti : ∀ w, (typeInfo e).run P w = .ok i w := fun w => by simp [typeInfo, hinfo]
  have hbi : ¬ (Builtin.nextslicecap (len + n) cap * i.bytes > 2 ^ 48) := by rw [b2]; omega
  have hmx : ¬ ((len + n : Nat) : Int) > IntKind.i64.max := by simp only [IntKind.max, IntKind.signed, IntKind.bits]; simp; omega
  simp only [Builtin.append_, List.getElem?_toArray, Sem.run_bind, run_underlying hu, run_underlying hu', Result.andThen_ok, run_sizeT hs, Builtin.lenOf, Sem.run_pure]
  simp only [List.size_toArray, List.length_cons, List.length_nil, List.getElem?_cons_zero, List.getElem?_cons_succ, Sem.run_bind, run_underlying hu, run_underlying hu', Result.andThen_ok, run_sizeT hs, Builtin.lenOf, Sem.run_pure, Bool.false_eq_true, if_false, Bool.not_false, if_true]
  rw [if_neg (by omega)]
  simp only [Sem.run_bind, hti, Result.andThen_ok]
  rw [if_neg (by intro h; exact hmx h.1)]
  simp only [Sem.run_bind, hti, Result.andThen_ok]
  rw [if_neg hbi]
  simp only [Sem.run_bind, hch, hti, hroom, ho, hn, hzv, Result.andThen_ok, newRow, Sem.run_pure]
  rfl

/-- What appends leave, in the store of the small machine. -/
theorem append_spec {sT xT ty e e' : TypeId} {esz bytes id : Nat} {x y r : V} {vx vy : Value} {z : List V} (hS : RS P fo base K ρ s w) (hu : P.underlying sT = some (.slice e)) (hu' : P.underlying xT = some (.slice e')) (hs : sizeT P e = some esz) (hb : bytesT P e = some bytes)
    (hz : zeroT P tr e = some z) (hzl : z.length = esz) (h0 : 0 < esz) (hx : RV fo K ρ (vo s) x vx) (hy : RV fo K ρ (vo s) y vy) (h : appendV s id esz bytes x y = some (r, s')) :
    ∃ u ρ' w', (Builtin.append_ #[sT, xT] ty #[vx, vy]).run P w = .ok u w' ∧ RS P fo base K ρ' s' w' ∧ Stp base K ρ s w K ρ' s' w' ∧ RV fo K ρ' (vo s') r u := by
  unfold appendV at h
  split at h <;> try (cases h; done)
  rename_i ys hys
  obtain ⟨ay, cy, vs, rfl, y1, y2, y3, y4, y5⟩ := rows_read hS h0 hy hys
  obtain ⟨f1, f2⟩ := flat_rows y4 y3
  -- a new array
  have grows : ∀ (a : Option Addr) (len cap : Nat) (rows : List (List V)) (old : Array Value), vx = .slice a len cap → rows.length = len → (∀ r ∈ rows, r.length = esz) → cap < len + ys.length → roomy (len + ys.length) bytes = true →
      (∀ w' : World, w'.heap = w.heap → (Builtin.firstCells esz len (.slice a len cap)).run P w' = .ok old w') → RVs fo K ρ (vo s) rows.flatten old.toList →
      ∃ (newCap : Nat) (w1 : World) (cells : Array Value), (Builtin.append_ #[sT, xT] ty #[vx, .slice ay ys.length cy]).run P w = .ok (.slice (some ⟨w.heap.size, 0, none⟩) (len + ys.length) newCap) (w1.alloc (.cells cells e)) ∧
        w1.heap = w.heap ∧ Below base w w1 ∧ len + ys.length ≤ newCap ∧ cells.size = newCap * esz ∧
        (∀ (i : Nat) r, (rows ++ ys)[i]? = some r → ∀ (j : Nat) x, r[j]? = some x → ∃ v, cells[i * esz + j]? = some v ∧ RV fo K ρ (vo s) x v ∧ ((∀ v ∈ old.toList, v.oneCell' = true) → v.oneCell' = true)) := by
    rintro a len cap rows old rfl hrl hrw hlt hr hold hrv
    obtain ⟨w1, nc, rest, g1, g2, g3, g4, g5, g6, g7⟩ := append_grows (ty := ty) (tr := tr) (w := w) (a := a) (len := len) (cap := cap) (old := old) (new := vs) hu hu' hs hb hz hzl ⟨ay, cy, rfl⟩ hold y2 hlt hr
    obtain ⟨o1, o2⟩ := flat_rows hrw hrv
    simp only [Array.length_toList] at o1 f1
    refine ⟨nc, w1, _, g1, g2, ⟨g3, g4, g5, by rw [g2]; exact Nat.le_refl _, fun k _ => by rw [g2]⟩, g6, ?_, fun i r hi j x hj => ?_⟩
    · simp only [Array.size_append, o1, f1, g7, hrl]
      rw [← Nat.add_mul, ← Nat.add_mul]; congr 1; omega
    · have hmul : ∀ i m : Nat, i < m → j < esz → i * esz + j < m * esz := fun i m him hj => by
        have := Nat.mul_le_mul_right esz (show i + 1 ≤ m from him); rw [Nat.add_mul, Nat.one_mul] at this; omega
      by_cases hir : i < rows.length
      · rw [List.getElem?_append_left hir] at hi
        obtain ⟨v, e1, e2⟩ := o2 i r hi j x hj
        have hjl : j < esz := by rw [← hrw r (List.mem_of_getElem? hi)]; exact (List.getElem?_eq_some_iff.1 hj).1
        refine ⟨v, ?_, e2, fun ho => ho v (List.mem_of_getElem? e1)⟩
        rw [← Array.getElem?_toList, Array.toList_append, Array.toList_append, List.append_assoc, List.getElem?_append_left (by simp only [Array.length_toList, o1]; exact hmul _ _ hir hjl)]
        exact e1
      · rw [List.getElem?_append_right (by omega)] at hi
        obtain ⟨v, e1, e2⟩ := f2 _ r hi j x hj
        have hjl : j < esz := by rw [← y4 r (List.mem_of_getElem? hi)]; exact (List.getElem?_eq_some_iff.1 hj).1
        have hik := (List.getElem?_eq_some_iff.1 hi).1
        refine ⟨v, ?_, e2, fun _ => y5 v (List.mem_of_getElem? e1)⟩
        have hsplit : i * esz + j = rows.length * esz + ((i - rows.length) * esz + j) := by
          have : i * esz = rows.length * esz + (i - rows.length) * esz := by rw [← Nat.add_mul]; congr 1; omega
          omega
        rw [← Array.getElem?_toList, Array.toList_append, Array.toList_append, List.append_assoc, List.getElem?_append_right (by simp only [Array.length_toList, o1]; omega), List.getElem?_append_left (by simp only [Array.length_toList, o1, f1]; have := hmul _ _ hik hjl; omega)]
        simp only [Array.length_toList, o1]
        rw [show i * esz + j - rows.length * esz = (i - rows.length) * esz + j by omega]
        exact e1
  -- the new block in the store, at a free place
  have fresh : ∀ (a : Option Addr) (len cap : Nat) (rows : List (List V)) (old : Array Value), vx = .slice a len cap → rows.length = len → (∀ r ∈ rows, r.length = esz) → cap < len + ys.length → roomy (len + ys.length) bytes = true →
      (∀ w' : World, w'.heap = w.heap → (Builtin.firstCells esz len (.slice a len cap)).run P w' = .ok old w') → RVs fo K ρ (vo s) rows.flatten old.toList → ((rows ++ ys).all fun r => r.length == esz && r.all scalarV) = true →
      (newB s id (.rows 0 false esz (rows ++ ys))).map (fun s => (V.ms id 0 0 (rows ++ ys).length, s)) = some (r, s') →
      ∃ u ρ' w', (Builtin.append_ #[sT, xT] ty #[vx, .slice ay ys.length cy]).run P w = .ok u w' ∧ RS P fo base K ρ' s' w' ∧ Stp base K ρ s w K ρ' s' w' ∧ RV fo K ρ' (vo s') r u := by
    intro a len cap rows old e1 hrl hrw hlt hr hold hrv hall h
    obtain ⟨nc, w1, cells, g1, g2, g3, g4, g5, g6⟩ := grows a len cap rows old e1 hrl hrw hlt hr hold hrv
    cases hq : newB s id (.rows 0 false esz (rows ++ ys)) with
    | none => simp [hq] at h
    | some s2 =>
      simp [hq] at h
      obtain ⟨rfl, rfl⟩ := h
      obtain ⟨n1, n2, rfl⟩ := newB_spec hq
      simp only [List.all_eq_true, Bool.and_eq_true, beq_iff_eq] at hall
      obtain ⟨b1, b2⟩ := rows_new (t := e) (c := cells) (els := rows ++ ys) (esz := esz) (hS.world g2) n1 n2 (by rw [g5]; simp only [List.length_append, hrl]; exact Nat.mul_le_mul_right _ g4) (fun r hr => (hall r hr).1) (fun i r hi j x hj => by
        obtain ⟨v, a1, a2, _⟩ := g6 i r hi j x hj
        have hm := List.mem_of_getElem? hi
        exact ⟨v, a1, a2, a2.cellV ((hall r hm).2 x (List.mem_of_getElem? hj))⟩)
      refine ⟨_, _, _, g1, b1, (Stp.world g3 g2).trans b2, .ms _ _ _ _ 0 esz _ _ _ (by rw [vo_set n1]; simp) fun _ => ⟨rfl, by simp [placed, g2], by simp [hrl], by simp [hrl]; exact g4, by simp [placed, g5]⟩⟩
  -- nothing is appended
  have same : ys = [] → ∀ a len cap, vx = .slice a len cap → len ≤ cap → RV fo K ρ (vo s) r vx → s' = s →
      ∃ u ρ' w', (Builtin.append_ #[sT, xT] ty #[vx, .slice ay ys.length cy]).run P w = .ok u w' ∧ RS P fo base K ρ' s' w' ∧ Stp base K ρ s w K ρ' s' w' ∧ RV fo K ρ' (vo s') r u := by
    rintro rfl a len cap rfl hle hr rfl
    have hvs : vs = #[] := by simpa using f1
    subst hvs
    have := append_fits (ty := ty) (w := w) (a := a) (len := len) (cap := cap) (y := .slice ay 0 cy) (new := #[]) hu hu' hs ⟨ay, cy, rfl⟩ (y2 w rfl) (by simpa using hle)
    refine ⟨_, ρ, w, ?_, hS, .refl, hr⟩
    simp only [List.length_nil]
    rw [this]
    cases a <;> simp [storeCells]
  have bare : ∀ a, vx = .slice a 0 0 → RV fo K ρ (vo s) x vx → (if ys = [] then some (x, s) else if (ys.all (fun r => r.length == esz && r.all scalarV) && roomy ys.length bytes) = true then (newB s id (.rows 0 false esz ys)).map fun s => (V.ms id 0 0 ys.length, s) else none) = some (r, s') →
      ∃ u ρ' w', (Builtin.append_ #[sT, xT] ty #[vx, .slice ay ys.length cy]).run P w = .ok u w' ∧ RS P fo base K ρ' s' w' ∧ Stp base K ρ s w K ρ' s' w' ∧ RV fo K ρ' (vo s') r u := by
    intro a e1 hx h
    split at h
    · rename_i hys0
      injection h with h; injection h with q1 q2
      exact same hys0 a 0 0 e1 (Nat.le_refl _) (q1 ▸ hx) q2.symm
    · rename_i hys0
      split at h <;> try (cases h; done)
      rename_i hc
      simp only [Bool.and_eq_true] at hc
      have hpos : 0 < ys.length := List.length_pos_iff.2 hys0
      exact fresh a 0 0 [] #[] e1 rfl (by simp) (by omega) (by simpa using hc.2) (fun w' _ => by cases a <;> simp [Builtin.firstCells, loadCells, loadCellsFrom]) .nil hc.1 h
  split at h
  · cases hx; exact bare none rfl .nils h
  · cases hx; exact bare _ rfl (.emp _) h
  · rename_i es
    split at h
    · rename_i hys0
      injection h with h; injection h with q1 q2
      cases hx with | lit _ a hd =>
      exact same hys0 (some a) es.length es.length rfl (Nat.le_refl _) (q1 ▸ .lit es a hd) q2.symm
    · rename_i hys0
      dsimp only at h
      split at h <;> try (cases h; done)
      rename_i hc
      simp only [Bool.and_eq_true] at hc
      have hw : wide esz es = true := by
        simp only [wide, List.all_eq_true, beq_iff_eq]
        intro d hd
        have := List.all_eq_true.1 hc.1 (d.cells.map V.d) (by simp; exact .inl ⟨d, hd, rfl⟩)
        simp at this
        exact this.1
      obtain ⟨a, cx, old, o0, o1, o2, o3, o4, o5⟩ := rows_read (esz := esz) (ys := es.map fun e => e.cells.map V.d) hS h0 hx (by simp [rowsOf, hw])
      have hpos : 0 < ys.length := List.length_pos_iff.2 hys0
      have hcx : cx = es.length := by
        cases hx with | lit _ a' hd => injection o0 with _ _ q; exact q.symm
      subst hcx
      simp only [List.length_map] at o0 o2
      rw [o0] at o2
      exact fresh a es.length es.length _ old o0 (by simp) o4 (by omega) (by simpa using hc.2) o2 o3 hc.1 h
  · rename_i b ver off len
    split at h <;> try (cases h; done)
    rename_i v' n els hb
    split at h <;> try (cases h; done)
    rename_i hc
    obtain ⟨rfl, rfl, hle⟩ := hc
    have hx' := hx
    obtain ⟨a, m, cap, v0, e', rfl, g1, g2⟩ := hx'.ms_inv
    rw [vo_rows hb] at g1; injection g1 with g1; injection g1 with q1 q2; subst q1; subst q2
    obtain ⟨_, rfl, rfl, k1, k2⟩ := g2 (Nat.le_refl _)
    split at h
    · rename_i hys0
      injection h with h; injection h with q1 q2
      exact same hys0 _ m cap rfl k1 (q1 ▸ hx) q2.symm
    · rename_i hys0
      split at h <;> try (cases h; done)
      rename_i hcond
      obtain ⟨rfl, hall, hroom⟩ := hcond
      injection h with h; injection h with q1 q2; subst q1; subst q2
      have hpos : 0 < ys.length := List.length_pos_iff.2 hys0
      simp only [List.all_eq_true, Bool.and_eq_true, beq_iff_eq] at hall
      have hwid : ∀ r ∈ els.take m ++ ys, r.length = n := fun r hr => by
        rcases List.mem_append.1 hr with hr | hr
        · have hB := (hS.blk b _ hb).1
          cases hB' : ρ b with | mk B size =>
          rw [hB'] at hB
          cases hB with | rows _ _ _ _ _ _ c t h1 h2 h3 h4 h5 h6 => exact h4 r (List.mem_of_mem_take hr)
        · exact y4 r hr
      have htk : (els.take m).length = m := by simp; omega
      by_cases hfit : m + ys.length ≤ cap
      · -- in place
        have hB := (hS.blk b _ hb).1
        cases hB' : ρ b with | mk B size =>
        rw [hB'] at hB k2
        cases hB with
        | rows _ _ _ _ _ _ c t h1 h2 h3 h4 h5 h6 =>
          simp only [Nat.zero_add] at k2
          have hsz : m * n + ys.length * n ≤ c.size := by
            have := Nat.mul_le_mul_right n hfit; rw [Nat.add_mul] at this; omega
          have hrun := run_storeCells_at P B (m * n) t vs.toList 0 c w h1 (by simp only [Array.length_toList] at f1; simp; omega) (fun v hv => by
            obtain ⟨k, hk, rfl⟩ := List.getElem_of_mem hv
            have hk' : k < ys.flatten.length := by rw [y3.length]; exact hk
            obtain ⟨u, e1, e2⟩ := y3.get (List.getElem?_eq_getElem hk')
            rw [List.getElem?_eq_getElem hk] at e1; injection e1 with e1
            have hmem := List.getElem_mem hk'
            obtain ⟨r, hr, hx⟩ := List.mem_flatten.1 hmem
            exact e1 ▸ e2.cellV ((hall r hr).2 _ hx))
          have hap := append_fits (ty := ty) (w := w) (a := some ⟨B, 0 * n, none⟩) (len := m) (cap := cap) (y := .slice ay ys.length cy) (new := vs) hu hu' hs ⟨ay, cy, rfl⟩ (y2 w rfl) hfit
          simp only [Nat.zero_mul, add_addr, Nat.zero_add] at hap hrun
          rw [hrun] at hap
          simp only [Result.andThen_ok] at hap
          have hrow : ∀ k, (c.toList.take (m * n + 0) ++ vs.toList ++ c.toList.drop (m * n + 0 + vs.toList.length)).toArray[k]? = if m * n ≤ k ∧ k < m * n + vs.toList.length then vs.toList[k - m * n]? else c[k]? := by
            intro k
            rw [List.getElem?_toArray, Nat.add_zero, seg_get _ _ _ _ (by rw [f1]; simpa using hsz)]
            simp
          have hfin := hS.write (v1 := v' + 1) (b := .rows (v' + 1) false n (els.take m ++ ys)) (w' := w.setRow B (c.toList.take (m * n + 0) ++ vs.toList ++ c.toList.drop (m * n + 0 + vs.toList.length)).toArray) hb (vo_rows hb) rfl (Nat.le_succ _) (fun hz => absurd hz (by omega))
            (by rw [hB']; exact h6 rfl) (by rw [hB']; exact below_setRow (Below.refl _ _) (Nat.le_refl _) _) (fun B' hne => setRow_other w B B' _ (by rw [hB'] at hne; exact hne)) (setRow_size w B _) (by
              rw [hB']
              have hL : Later ρ ρ (vo s) (vo (s.set b (some (.rows (v' + 1) false n (els.take m ++ ys))))) := by
                have := Later.bump (ρ := ρ) (p := ρ b) (b := .rows (v' + 1) false n (els.take m ++ ys)) (v1 := v' + 1) (getB_lt hb) (vo_rows hb) rfl (Nat.le_succ _) (fun _ => rfl) (fun hz => absurd hz (by omega))
                have e2 : (fun j => if j = b then ρ b else ρ j) = ρ := by funext j; by_cases hj : j = b <;> simp [hj]
                rwa [e2] at this
              refine .rows _ _ _ _ B size _ t (setRow_heap w B c _ t (0, 0) h1) (by simp only [List.size_toArray, List.length_append, List.length_take, List.length_drop, Array.length_toList, f1]; simp only [Array.length_toList] at f1; omega) ?_ hwid (fun k r hr q y hy => ?_) h6
              · simp only [List.length_append, htk, Nat.add_mul]; omega
              · rw [hrow]
                have hq : q < n := by rw [← hwid r (List.mem_of_getElem? hr)]; exact (List.getElem?_eq_some_iff.1 hy).1
                by_cases hkm : k < m
                · rw [List.getElem?_append_left (by omega), List.getElem?_take, if_pos hkm] at hr
                  rw [if_neg (by have := Nat.mul_le_mul_right n (show k + 1 ≤ m from hkm); rw [Nat.add_mul, Nat.one_mul] at this; omega)]
                  obtain ⟨u, e1, e2, e3⟩ := h5 k r hr q y hy
                  exact ⟨u, e1, e2.mono (fun _ _ _ h => h) hL, e3⟩
                · rw [List.getElem?_append_right (by omega), htk] at hr
                  obtain ⟨u, e1, e2⟩ := f2 _ r hr q y hy
                  have hklt := (List.getElem?_eq_some_iff.1 hr).1
                  have e4 : k * n = m * n + (k - m) * n := by rw [← Nat.add_mul]; congr 1; omega
                  have e5 := Nat.mul_le_mul_right n (show k - m + 1 ≤ ys.length from hklt)
                  rw [Nat.add_mul, Nat.one_mul] at e5
                  rw [if_pos ⟨by omega, by rw [f1]; omega⟩, show k * n + q - m * n = (k - m) * n + q by omega]
                  exact ⟨u, e1, e2.mono (fun _ _ _ h => h) hL, e2.cellV ((hall r (List.mem_of_getElem? hr)).2 y (List.mem_of_getElem? hy))⟩)
          have hap' : (Builtin.append_ #[sT, xT] ty #[.slice (some ⟨B, 0 * n, none⟩) m cap, .slice ay ys.length cy]).run P w = .ok (.slice (some ⟨B, 0, none⟩) (m + ys.length) cap) (w.setRow B (c.toList.take (m * n + 0) ++ vs.toList ++ c.toList.drop (m * n + 0 + vs.toList.length)).toArray) := by
            simpa using hap
          have hvo : vo (setB s b (.rows (v' + 1) false n (els.take m ++ ys))) b = some (v' + 1, n) := by unfold setB; rw [vo_set (getB_lt hb)]; simp
          have hloc : (⟨B, 0, none⟩ : Addr) = ⟨(ρ b).1, 0 * n, none⟩ := by simp [hB']
          have hroom2 : (0 + cap) * n ≤ (ρ b).2 := by simpa [hB'] using k2
          exact ⟨_, ρ, _, hap', hfin.1, hfin.2, RV.ms b (v' + 1) 0 (m + ys.length) (v' + 1) n ⟨B, 0, none⟩ (m + ys.length) cap hvo (fun _ => ⟨rfl, hloc, rfl, hfit, hroom2⟩)⟩
      · -- a new array
        obtain ⟨a', cx, old, o0, o1, o2, o3, o4, o5⟩ := rows_read (esz := n) (ys := (els.drop 0).take m) hS h0 hx (by simp only [rowsOf, hb]; rw [if_pos (by simpa using hle)])
        simp only [List.drop_zero, htk] at o0 o2 o3 o4
        injection o0 with r1 _ r3; subst r3; subst r1
        obtain ⟨nc, w1, cells, g1, g2, g3, g4, g5, g6⟩ := grows _ m cap (els.take m) old rfl htk o4 (by omega) hroom o2 o3
        have hSw := hS.world g2
        have hfin := hSw.move (size := cells.size) (v1 := v' + 1) (b := .rows (v' + 1) false n (els.take m ++ ys)) (o := .cells cells e) hb (vo_rows hb) rfl (Nat.lt_succ_self _) (by omega) (by
          have hL : Later ρ (placed ρ b w1.heap.size cells.size) (vo s) (vo (s.set b (some (.rows (v' + 1) false n (els.take m ++ ys))))) := .bump (v1 := v' + 1) (getB_lt hb) (vo_rows hb) rfl (Nat.le_succ _) (fun h => absurd h (by omega)) (fun hz => absurd hz (by omega))
          refine .rows _ _ _ _ _ _ cells e (World.alloc_heap_new w1 _) rfl (by simp only [List.length_append, htk, g5]; exact Nat.mul_le_mul_right _ g4) hwid (fun k r hr q y hy => ?_) (fun _ o => ?_)
          · obtain ⟨u, e1, e2, e3⟩ := g6 k r hr q y hy
            exact ⟨u, e1, e2.mono (fun _ _ _ h => h) hL, e3 o5⟩
          · cases hk : K w1.heap.size o with
            | none => rfl
            | some v =>
              obtain ⟨_, _, _, h1, _⟩ := hSw.known _ _ _ hk
              have := (Array.getElem?_eq_some_iff.1 h1).1
              omega)
        have hvo : vo (setB s b (.rows (v' + 1) false n (els.take m ++ ys))) b = some (v' + 1, n) := by unfold setB; rw [vo_set (getB_lt hb)]; simp
        have hloc : (⟨w.heap.size, 0, none⟩ : Addr) = ⟨(placed ρ b w1.heap.size cells.size b).1, 0 * n, none⟩ := by simp [placed, g2]
        have hroom2 : (0 + nc) * n ≤ (placed ρ b w1.heap.size cells.size b).2 := by simp [placed, g5]
        exact ⟨_, _, _, g1, hfin.1, (Stp.world g3 g2).trans hfin.2, RV.ms b (v' + 1) 0 (m + ys.length) (v' + 1) n ⟨w.heap.size, 0, none⟩ (m + ys.length) nc hvo (fun _ => ⟨rfl, hloc, rfl, g4, hroom2⟩)⟩
  · cases h
end Go.Proofs.YtboekhenldifhaaGreat
