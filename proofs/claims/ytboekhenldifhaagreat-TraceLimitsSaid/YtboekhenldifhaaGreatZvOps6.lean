/- What is read of memory, second part: places of elements, lengths, slices of slices. -/
import Derived.Test.YtboekhenldifhaaGreatZvOps5
namespace Go.Proofs.YtboekhenldifhaaGreat
open Go.RowKit
variable {P : Program} {fo : Nat → Option FuncId} {K : Known} {ρ : Places} {w : World} {tr : FuncId → Option Nat} {base : Nat} {s : Store}

/-- An immutable slice: where it lies. -/
theorem RD.slice_at {es : List D} {v : Value} (h : RD fo K (.slice es) v) {k : Nat} {e : D} (hk : es[k]? = some e) :
    ∃ B o cap esz vs, v = .slice (some ⟨B, o, none⟩) es.length cap ∧ es.length ≤ cap ∧ 0 < esz ∧ (∀ x ∈ es, x.cells.length = esz) ∧ RDs fo K (es.flatMap D.cells) vs ∧ (∀ (j : Nat) u, vs[j]? = some u → K B (o + j) = some u) := by
  cases h with
  | sliceE a cap hc0 => simp at hk
  | slice _ B o cap esz vs h0 h1 h2 h3 h4 h5 => exact ⟨B, o, cap, esz, vs, rfl, h5, h1, h2, h3, h4⟩
theorem flat_drop {esz : Nat} : ∀ {es : List D}, (∀ x ∈ es, x.cells.length = esz) → ∀ (k : Nat), (es.flatMap D.cells).drop (k * esz) = (es.drop k).flatMap D.cells
  | [], _, k => by simp
  | e :: es, h, 0 => by simp
  | e :: es, h, k + 1 => by
    have he := h e (by simp)
    have ih := flat_drop (es := es) (fun x hx => h x (by simp [hx])) k
    rw [List.flatMap_cons, List.drop_succ_cons, ← ih, show (k + 1) * esz = e.cells.length + k * esz by rw [he, Nat.succ_mul]; omega, List.drop_append, List.drop_of_length_le (by omega)]
    simp
theorem flat_take {esz : Nat} : ∀ {es : List D}, (∀ x ∈ es, x.cells.length = esz) → ∀ (k : Nat), (es.flatMap D.cells).take (k * esz) = (es.take k).flatMap D.cells
  | [], _, k => by simp
  | e :: es, h, 0 => by simp
  | e :: es, h, k + 1 => by
    have he := h e (by simp)
    have ih := flat_take (es := es) (fun x hx => h x (by simp [hx])) k
    rw [List.flatMap_cons, List.take_succ_cons, List.flatMap_cons, ← ih, show (k + 1) * esz = e.cells.length + k * esz by rw [he, Nat.succ_mul]; omega, List.take_append, List.take_of_length_le (by omega)]
    simp
theorem flat_length {esz : Nat} : ∀ {es : List D}, (∀ x ∈ es, x.cells.length = esz) → (es.flatMap D.cells).length = es.length * esz
  | [], _ => by simp
  | e :: es, h => by
    have ih := flat_length (es := es) (fun x hx => h x (by simp [hx]))
    simp [h e (by simp), ih, Nat.succ_mul]; omega
theorem RV.slice_inv {es : List D} {x : V} {v : Value} {vv : Nat → Option (Nat × Nat)} (hx : RV fo K ρ vv x v) (h : x = .d (.slice es) ∨ x = .lit es) : RD fo K (.slice es) v := by
  rcases h with rfl | rfl
  · cases hx; assumption
  · cases hx; assumption

theorem indexAt_run {t e : TypeId} {a : Addr} {len cap k : Nat} {q : IntKind} {esz : Nat} (hu : P.underlying t = some (.slice e)) (hs : sizeT P e = some esz) (hk : k < len) (w : World) :
    (Instr.indexAt t (.slice (some a) len cap) (.int q (k : Int))).run P w = .ok (.pointer (some (a.add (k * esz)))) w := by
  simp [Instr.indexAt, Sem.run_bind, asIntOf, run_underlying hu, run_sizeT hs, hk]

theorem iaddrS_spec {t e : TypeId} {esz : Nat} {x i r : V} {v u : Value} (hu : P.underlying t = some (.slice e)) (hs : sizeT P e = some esz) (h0 : 0 < esz)
    (hx : RV fo K ρ (vo s) x v) (hi : RV fo K ρ (vo s) i u) (h : iaddrSV s esz x i = some r) : ∃ z, (Instr.indexAt t v u).run P w = .ok z w ∧ RV fo K ρ (vo s) r z := by
  unfold iaddrSV at h
  cases hq : idx i with
  | none => simp [hq] at h
  | some k =>
    obtain ⟨q, rfl⟩ := idx_spec hi hq
    simp only [hq] at h
    have imm : ∀ es, (x = .d (.slice es) ∨ x = .lit es) → (match es[k]? with | some e => if e.cells.length = esz then some (V.d (.iptr e.cells 0)) else none | none => none) = some r →
        ∃ z, (Instr.indexAt t v (.int q (k : Int))).run P w = .ok z w ∧ RV fo K ρ (vo s) r z := by
      intro es hes h
      split at h <;> try (cases h; done)
      rename_i d hd
      split at h <;> try (cases h; done)
      rename_i hl
      injection h with h; subst h
      obtain ⟨B, o, cap, esz', vs, rfl, g1, g2, g3, g4, g5⟩ := (hx.slice_inv hes).slice_at hd
      have hk := (List.getElem?_eq_some_iff.1 hd).1
      have : esz' = esz := by rw [← hl]; exact (g3 d (List.mem_of_getElem? hd)).symm
      subst this
      refine ⟨_, indexAt_run hu hs hk w, ?_⟩
      rw [add_addr]
      have e1 : ((es.flatMap D.cells).drop (k * esz')).take esz' = d.cells := by
        rw [flat_drop g3, List.drop_eq_getElem_cons hk, List.flatMap_cons]
        have : es[k] = d := by rw [List.getElem?_eq_getElem hk] at hd; injection hd
        rw [this, ← hl]; simp
      have g6 := (g4.drop (k * esz')).take esz'
      rw [e1] at g6
      have := RD.iptr (fo := fo) (K := K) d.cells 0 B (o + k * esz') _ g6 (fun j u hj => by
        simp only [List.getElem?_take, List.getElem?_drop] at hj
        split at hj <;> try (cases hj; done)
        rw [Nat.add_assoc]; exact g5 _ _ hj)
      exact .d _ _ (by simpa using this)
    split at h
    · exact imm _ (.inl rfl) h
    · exact imm _ (.inr rfl) h
    · rename_i id ver off len
      obtain ⟨a, n, cap, v0, e', rfl, g1, g2⟩ := hx.ms_inv
      split at h <;> try (cases h; done)
      rename_i v' ro n' els hb
      split at h <;> try (cases h; done)
      rename_i hc
      obtain ⟨rfl, rfl, hk, hle⟩ := hc
      injection h with h; subst h
      rw [vo_rows hb] at g1; injection g1 with g1; injection g1 with e1 e2; subst e1; subst e2
      obtain ⟨_, rfl, rfl, _, _⟩ := g2 (Nat.le_refl _)
      refine ⟨_, indexAt_run hu hs hk w, ?_⟩
      rw [add_addr]
      refine .ptr _ _ _ _ _ _ _ (vo_rows hb) fun _ => ⟨rfl, ?_⟩
      congr 1
      rw [Nat.add_mul]; omega
    · rename_i id ver a' b len
      obtain ⟨a, n, cap, v0, e', rfl, g1, g2⟩ := hx.asl_inv
      split at h <;> try (cases h; done)
      rename_i hc
      obtain ⟨hv, hk, rfl⟩ := hc
      injection h with h; subst h
      have hv' : v0 = ver := by
        unfold verOf at hv; unfold vo at g1
        cases hb : getB s id with
        | none => simp [hb] at g1
        | some b => cases b <;> simp [hb] at hv g1 <;> omega
      subst hv'
      obtain ⟨_, rfl, rfl, _⟩ := g2 (Nat.le_refl _)
      refine ⟨_, indexAt_run hu hs hk w, ?_⟩
      rw [add_addr]
      refine .ptr _ _ _ _ _ _ _ g1 fun _ => ⟨rfl, ?_⟩
      congr 1
      omega
    · cases h

theorem verOf_vo {id ver v0 e : Nat} (hv : verOf s id = some ver) (g : vo s id = some (v0, e)) : v0 = ver := by
  unfold verOf at hv; unfold vo at g
  cases hb : getB s id with
  | none => simp [hb] at g
  | some b => cases b <;> simp [hb] at hv g <;> omega

theorem lenV_spec {x : V} {v : Value} {n : Nat} (hS : RS P fo base K ρ s w) (hx : RV fo K ρ (vo s) x v) (h : lenV s x = some n) :
    (∃ a cap, v = .slice a n cap) ∨ (∃ b, v = .string b ∧ b.size = n) ∨ (v = .map none ∧ n = 0) ∨ (∃ r ents c, v = .map (some r) ∧ w.heap[r]? = some (.map ents c) ∧ ents.size = n) := by
  unfold lenV at h
  split at h
  · injection h with h; subst h; cases hx; exact .inl ⟨_, _, rfl⟩
  · injection h with h; subst h; cases hx; exact .inl ⟨_, _, rfl⟩
  · injection h with h; subst h; cases hx; exact .inl ⟨_, _, rfl⟩
  · injection h with h; subst h
    cases hx with | d _ _ hx => cases hx with
    | sliceE a cap hc0 => exact .inl ⟨_, _, rfl⟩
    | slice => exact .inl ⟨_, _, rfl⟩
  · injection h with h; subst h; cases hx; exact .inl ⟨_, _, rfl⟩
  · injection h with h; subst h
    have := hx.str_inv; subst this
    exact .inr (.inl ⟨_, rfl, rfl⟩)
  · split at h <;> try (cases h; done)
    rename_i hv
    injection h with h; subst h
    obtain ⟨a, m, cap, v0, e', rfl, g1, g2⟩ := hx.ms_inv
    have := verOf_vo hv g1; subst this
    obtain ⟨_, _, rfl, _⟩ := g2 (Nat.le_refl _)
    exact .inl ⟨_, _, rfl⟩
  · split at h <;> try (cases h; done)
    rename_i hv
    injection h with h; subst h
    obtain ⟨a, m, cap, v0, e', rfl, g1, g2⟩ := hx.asl_inv
    have := verOf_vo hv g1; subst this
    obtain ⟨_, _, rfl, _⟩ := g2 (Nat.le_refl _)
    exact .inl ⟨_, _, rfl⟩
  · injection h with h; subst h
    cases hx with | d _ _ hx => cases hx; exact .inr (.inr (.inl ⟨rfl, rfl⟩))
  · rename_i id
    split at h <;> try (cases h; done)
    rename_i es hb
    injection h with h; subst h
    cases hx with | map _ _ hv =>
    have hB := (hS.blk id _ hb).1
    generalize hp : ρ id = p at hB
    cases hB with
    | map es B size ents c h1 h2 h3 h4 => exact .inr (.inr (.inr ⟨_, ents, c, rfl, h1, h2.symm⟩))
  · cases h

/-- What a bound of a slice expression comes to. -/
theorem bound_run {lo : Option V} {vlo : Option Value} {d l y : Nat} {code : BoundsCode} (hl : (lo = none ∧ vlo = none) ∨ ∃ x v, lo = some x ∧ vlo = some v ∧ RV fo K ρ (vo s) x v) (h : bound lo d = some l) :
    (vlo = none ∧ l = d) ∨ ∃ v, vlo = some v ∧ (l ≤ y → (Instr.sliceBound v y code).run P w = .ok l w) := by
  rcases hl with ⟨rfl, rfl⟩ | ⟨x, v, rfl, rfl, hx⟩
  · simp [bound] at h; exact .inl ⟨rfl, h.symm⟩
  · right
    refine ⟨v, rfl, fun hle => ?_⟩
    unfold bound at h
    split at h <;> try (cases h; done)
    · rename_i heq; cases heq
    · rename_i q n heq
      injection heq with heq; subst heq
      split at h <;> try (cases h; done)
      rename_i hn
      injection h with h
      have := hx.int_inv; subst this
      have e : n = (l : Int) := by omega
      subst e
      simp [Instr.sliceBound, asIntOf, hle]

theorem bounds_run {isS : Bool} {lo hi : Option V} {vlo vhi : Option Value} {len cap l h : Nat}
    (hlo : (lo = none ∧ vlo = none) ∨ ∃ x v, lo = some x ∧ vlo = some v ∧ RV fo K ρ (vo s) x v) (hhi : (hi = none ∧ vhi = none) ∨ ∃ x v, hi = some x ∧ vhi = some v ∧ RV fo K ρ (vo s) x v)
    (e1 : bound lo 0 = some l) (e2 : bound hi len = some h) (hle : l ≤ h ∧ h ≤ len) (hc : len ≤ cap) :
    (Instr.sliceBounds isS len cap vlo vhi none).run P w = .ok (l, h, cap) w := by
  rcases bound_run (P := P) (w := w) (y := cap) (code := if isS then .sliceAcap else .sliceAlen) hhi e2 with ⟨rfl, rfl⟩ | ⟨vh, rfl, hh2⟩ <;>
  rcases bound_run (P := P) (w := w) (y := h) (code := .sliceB) hlo e1 with ⟨rfl, rfl⟩ | ⟨vl, rfl, hl2⟩
  · simp [Instr.sliceBounds]
  · simp [Instr.sliceBounds, hl2 hle.1]
  · simp [Instr.sliceBounds, hh2 (by omega)]
  · simp [Instr.sliceBounds, hh2 (by omega), hl2 hle.1]

theorem slice_spec {t e : TypeId} {esz : Nat} {x r : V} {v : Value} {lo hi : Option V} {vlo vhi : Option Value} (hu : P.underlying t = some (.slice e)) (hs : sizeT P e = some esz) (h0 : 0 < esz)
    (hx : RV fo K ρ (vo s) x v)
    (hlo : (lo = none ∧ vlo = none) ∨ ∃ x v, lo = some x ∧ vlo = some v ∧ RV fo K ρ (vo s) x v) (hhi : (hi = none ∧ vhi = none) ∨ ∃ x v, hi = some x ∧ vhi = some v ∧ RV fo K ρ (vo s) x v)
    (h : sliceV s esz x lo hi = some r) (hns : ∀ b, x ≠ .d (.str b)) : ∃ z, (Instr.sliceAt t v vlo vhi none).run P w = .ok z w ∧ RV fo K ρ (vo s) r z := by
  unfold sliceV at h
  cases hq : lenV s x with
  | none => simp [hq] at h
  | some len =>
    simp only [hq] at h
    split at h <;> try (cases h; done)
    rename_i l hh e1 e2
    split at h <;> try (cases h; done)
    rename_i hle
    have run : ∀ a cap, v = .slice a len cap → len ≤ cap → (Instr.sliceAt t v vlo vhi none).run P w = .ok (.slice (if cap = l then a else a.map (·.add (l * esz))) (hh - l) (cap - l)) w := by
      rintro a cap rfl hc
      simp only [Instr.sliceAt, Instr.slice, Sem.run_bind, run_underlying hu, Result.andThen_ok, bounds_run (P := P) (w := w) (isS := true) hlo hhi e1 e2 hle hc, run_sizeT hs, Sem.run_pure]
    have imm : ∀ es, (x = .d (.slice es) ∨ x = .lit es) → es.length = len → (if wide esz es then some (V.d (.slice ((es.drop l).take (hh - l)))) else none) = some r →
        ∃ z, (Instr.sliceAt t v vlo vhi none).run P w = .ok z w ∧ RV fo K ρ (vo s) r z := by
      intro es hes hl h
      split at h <;> try (cases h; done)
      rename_i hw
      injection h with h; subst h
      by_cases hz : es = []
      · subst hz
        have := hx.slice_inv hes
        cases this with
        | sliceE a cap hc0 =>
          simp at hl; subst hl
          have e0 : hh = l := by omega
          subst e0
          refine ⟨_, run a cap rfl (by omega), ?_⟩
          simp; refine .d _ _ (.sliceE _ _ fun hn => ?_)
          split at hn
          · have := hc0 hn; omega
          · have := hc0 (by simpa using hn); omega
        | slice _ _ _ _ _ _ h0 => exact absurd rfl h0
      · obtain ⟨d, hd⟩ := List.exists_mem_of_ne_nil es hz
        obtain ⟨k, hk, rfl⟩ := List.getElem_of_mem hd
        obtain ⟨B, o, cap, esz', vs, rfl, g1, g2, g3, g4, g5⟩ := (hx.slice_inv hes).slice_at (List.getElem?_eq_getElem hk)
        have he : esz' = esz := by
          have h1 := g3 _ hd
          simp only [wide, List.all_eq_true, beq_iff_eq] at hw
          rw [← h1, hw _ hd]
        subst he
        refine ⟨_, run _ cap (by rw [hl]) (by omega), ?_⟩
        by_cases hlh : hh = l
        · subst hlh; simp; exact .d _ _ (.sliceE _ _ fun hn => by split at hn <;> simp at hn)
        · rw [if_neg (by omega)]
          simp only [Option.map_some, add_addr]
          have hlen : ((es.drop l).take (hh - l)).length = hh - l := by simp; omega
          have g6 := (g4.drop (l * esz')).take ((hh - l) * esz')
          rw [flat_drop g3, flat_take (fun x hx => g3 x (List.mem_of_mem_drop hx))] at g6
          have := RD.slice (fo := fo) (K := K) ((es.drop l).take (hh - l)) B (o + l * esz') (cap - l) esz' _ (by intro h; rw [h] at hlen; simp at hlen; omega) h0 (fun x hx => g3 x (List.mem_of_mem_drop (List.mem_of_mem_take hx))) g6 (fun j u hj => by
            simp only [List.getElem?_take, List.getElem?_drop] at hj
            split at hj <;> try (cases hj; done)
            rw [Nat.add_assoc]; exact g5 _ _ hj) (by omega)
          rw [hlen] at this
          exact .d _ _ this
    split at h
    · exact absurd rfl (hns _)
    · injection h with h; subst h
      simp [lenV] at hq; subst hq
      cases hx
      have e0 : hh = l ∧ l = 0 := by omega
      obtain ⟨rfl, rfl⟩ := e0
      refine ⟨_, run none 0 rfl (by omega), ?_⟩
      simp; exact .nils
    · injection h with h; subst h
      simp [lenV] at hq; subst hq
      cases hx
      have e0 : hh = l ∧ l = 0 := by omega
      obtain ⟨rfl, rfl⟩ := e0
      refine ⟨_, run _ 0 rfl (by omega), ?_⟩
      simp; exact .emp _
    · exact imm _ (.inl rfl) (by simpa [lenV] using hq) h
    · exact imm _ (.inr rfl) (by simpa [lenV] using hq) h
    · rename_i id ver off len'
      obtain ⟨a, n, cap, v0, e', rfl, g1, g2⟩ := hx.ms_inv
      simp only [lenV] at hq
      split at hq <;> try (cases hq; done)
      rename_i hv
      injection hq with hq; subst hq
      have := verOf_vo hv g1; subst this
      obtain ⟨_, rfl, rfl, k1, k2⟩ := g2 (Nat.le_refl _)
      split at h
      · rename_i hlh; subst hlh
        injection h with h; subst h
        refine ⟨_, run _ cap rfl k1, ?_⟩
        simp; exact .d _ _ (.sliceE _ _ fun hn => by split at hn <;> simp at hn)
      · rename_i hlh
        split at h <;> try (cases h; done)
        rename_i v' ro e'' els hb
        split at h <;> try (cases h; done)
        rename_i he
        injection h with h; subst h
        have g1' := g1
        rw [vo_rows hb] at g1'; injection g1' with g1'; injection g1' with q1 q2; subst q1; subst q2; subst he
        refine ⟨_, run _ cap rfl k1, ?_⟩
        rw [if_neg (by omega)]
        simp only [Option.map_some, add_addr]
        refine .ms _ _ _ _ _ _ _ _ _ g1 fun _ => ⟨rfl, by congr 1; rw [Nat.add_mul], rfl, by omega, ?_⟩
        rw [show off + l + (cap - l) = off + cap by omega]; exact k2
    · cases h
end Go.Proofs.YtboekhenldifhaaGreat
