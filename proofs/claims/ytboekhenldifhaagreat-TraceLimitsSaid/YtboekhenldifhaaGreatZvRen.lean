/- Blocks closed one after the other; blocks renamed. -/
import Derived.Test.YtboekhenldifhaaGreatZvData
set_option linter.unusedSimpArgs false
set_option linter.unusedVariables false
namespace Go.Proofs.YtboekhenldifhaaGreat
open Go.RowKit
variable {P : Program} {fo : Nat → Option FuncId} {K K' : Known} {ρ : Places} {w : World} {tr : FuncId → Option Nat} {base : Nat} {s s' : Store} {vv : Nat → Option (Nat × Nat)}

theorem KnownB.mono {id : Nat} (h : KnownB fo K ρ vv s id) (hK : ∀ B o v, K B o = some v → K' B o = some v) : KnownB fo K' ρ vv s id := fun v ro e els hb =>
  let ⟨h1, h2⟩ := h v ro e els hb
  ⟨h1, fun i r hi j x hx => let ⟨u, a1, a2, a3⟩ := h2 i r hi j x hx; ⟨u, hK _ _ _ a1, a2.mono hK .refl, a3⟩⟩
theorem closeB_cons {id : Nat} {ids : List Nat} : closeB s (id :: ids) = closeB (match getB s id with | some (.rows v _ e els) => setB s id (.rows v true e els) | _ => s) ids := rfl
/-- Rows that are closed show what they showed. -/
theorem getB_close {id j : Nat} : ∀ {v ro e els}, getB (match getB s id with | some (.rows v _ e els) => setB s id (.rows v true e els) | _ => s) j = some (.rows v ro e els) ↔ (∃ ro', getB s j = some (.rows v ro' e els) ∧ (ro = ro' ∨ j = id ∧ ro = true) ∧ (j = id → ro = true)) := by
  intro v ro e els
  cases hb : getB s id with
  | none =>
    simp only
    constructor
    · intro h; exact ⟨ro, h, .inl rfl, fun hj => by subst hj; rw [hb] at h; cases h⟩
    · rintro ⟨ro', h, hr, hj⟩
      rcases hr with rfl | ⟨rfl, _⟩
      · exact h
      · rw [hb] at h; cases h
  | some b =>
    cases b with
    | rows v' ro' e' els' =>
      simp only [setB]
      by_cases hj : j = id
      · subst hj
        rw [getB_set_same (getB_lt hb), hb]
        constructor
        · intro h; injection h with h; injection h with a1 a2 a3 a4; subst a1; subst a2; subst a3; subst a4
          exact ⟨ro', rfl, .inr ⟨rfl, rfl⟩, fun _ => rfl⟩
        · rintro ⟨ro2, h, hr, hj⟩
          injection h with h; injection h with a1 a2 a3 a4; subst a1; subst a3; subst a4
          rw [hj rfl]
      · rw [getB_set_other hj]
        constructor
        · intro h; exact ⟨ro, h, .inl rfl, fun h => absurd h hj⟩
        · rintro ⟨ro2, h, hr, _⟩
          rcases hr with rfl | ⟨h', _⟩
          · exact h
          · exact absurd h' hj
    | map es =>
      simp only
      constructor
      · intro h; exact ⟨ro, h, .inl rfl, fun hj => by subst hj; rw [hb] at h; cases h⟩
      · rintro ⟨ro', h, hr, hj⟩
        rcases hr with rfl | ⟨rfl, _⟩
        · exact h
        · rw [hb] at h; cases h
    | loop st j' env ps a b' =>
      simp only
      constructor
      · intro h; exact ⟨ro, h, .inl rfl, fun hj => by subst hj; rw [hb] at h; cases h⟩
      · rintro ⟨ro', h, hr, hj⟩
        rcases hr with rfl | ⟨rfl, _⟩
        · exact h
        · rw [hb] at h; cases h
theorem vo_getB {id : Nat} (hv : vo s' = vo s) {b : Blk} (h : getB s' id = some b) : ∃ b', getB s id = some b' := by
  have : vo s' id = vo s id := by rw [hv]
  cases hb : getB s id with
  | some b' => exact ⟨b', rfl⟩
  | none =>
    simp only [vo, h, hb] at this
    cases b <;> simp at this

theorem closeB_spec : ∀ (ids : List Nat) {K : Known} {s : Store}, RS P fo base K ρ s w →
    ∃ K', RS P fo base K' ρ (closeB s ids) w ∧ (∀ B o v, K B o = some v → K' B o = some v) ∧ vo (closeB s ids) = vo s ∧ (∀ id ∈ ids, KnownB fo K' ρ (vo s) s id) ∧ (closeB s ids).length = s.length ∧ (∀ B o u, K' B o = some u → K B o = some u ∨ ∃ i b, getB s i = some b ∧ (ρ i).1 = B)
  | [], K, s, h => ⟨K, h, fun _ _ _ h => h, rfl, by simp, rfl, fun _ _ _ h => .inl h⟩
  | id :: ids, K, s, h => by
    rw [closeB_cons]
    obtain ⟨K1, h1, g1, g2, g3, g4, g5⟩ : ∃ K1, RS P fo base K1 ρ (match getB s id with | some (.rows v _ e els) => setB s id (.rows v true e els) | _ => s) w ∧ (∀ B o v, K B o = some v → K1 B o = some v) ∧
        vo (match getB s id with | some (.rows v _ e els) => setB s id (.rows v true e els) | _ => s) = vo s ∧ KnownB fo K1 ρ (vo s) s id ∧ (match getB s id with | some (.rows v _ e els) => setB s id (.rows v true e els) | _ => s).length = s.length ∧ (∀ B o u, K1 B o = some u → K B o = some u ∨ ∃ i b, getB s i = some b ∧ (ρ i).1 = B) := by
      cases hb : getB s id with
      | none => exact ⟨K, h, fun _ _ _ h => h, rfl, (by intro v ro e els hb'; rw [hb] at hb'; cases hb'), rfl, fun _ _ _ h => .inl h⟩
      | some b =>
        cases b with
        | rows v ro e els =>
          obtain ⟨K1, a1, a2, a3, a4, a5⟩ := close_one h hb
          exact ⟨K1, a1, a2, a3, a4, by simp [setB], fun B o u hu => (a5 B o u hu).imp (fun h => h) fun e => ⟨id, _, hb, e.symm⟩⟩
        | map es => exact ⟨K, h, fun _ _ _ h => h, rfl, (by intro v ro e els hb'; rw [hb] at hb'; cases hb'), rfl, fun _ _ _ h => .inl h⟩
        | loop => exact ⟨K, h, fun _ _ _ h => h, rfl, (by intro v ro e els hb'; rw [hb] at hb'; cases hb'), rfl, fun _ _ _ h => .inl h⟩
    obtain ⟨K2, h2, k1, k2, k3, k4, k5⟩ := closeB_spec ids h1
    refine ⟨K2, h2, fun B o v hv => k1 _ _ _ (g1 _ _ _ hv), k2.trans g2, fun j hj => ?_, k4.trans g4, fun B o u hu => ?_⟩
    rcases List.mem_cons.1 hj with rfl | hj
    · exact g3.mono k1
    · have := k3 j hj
      rw [g2] at this
      intro v ro e els hb'
      by_cases hji : j = id
      · exact this v true e els (getB_close.2 ⟨ro, hb', .inr ⟨hji, rfl⟩, fun _ => rfl⟩)
      · exact this v ro e els (getB_close.2 ⟨ro, hb', .inl rfl, fun h => absurd h hji⟩)
    · rcases k5 B o u hu with hu | ⟨i, b, hi, e⟩
      · exact g5 B o u hu
      · obtain ⟨b', hb'⟩ := vo_getB g2 hi
        exact .inr ⟨i, b', hb', e⟩
theorem Stp.close {ids : List Nat} (hK : ∀ B o v, K B o = some v → K' B o = some v) (hv : vo s' = vo s) (hl : ∀ B o u, K' B o = some u → K B o = some u ∨ ∃ i b, getB s i = some b ∧ (ρ i).1 = B) : Stp base K ρ s w K' ρ s' w where
  known := hK
  later := by rw [hv]; exact .refl
  below := .refl _ _
  frame _ _ _ := rfl
  img id b hb _ := let ⟨b', h⟩ := vo_getB hv hb; ⟨id, b', h, rfl⟩
  learn B o v h h' _ := by
    rcases hl B o v h with h | h
    · rw [h] at h'; cases h'
    · exact h
/-- Data out of a value: what is closed to this end is known. -/
theorem toD_close {n : Nat} {x : V} {d : D} {fz : List Nat} {v : Value} (h : RS P fo base K ρ s w) (hx : RV fo K ρ (vo s) x v) (hd : toD s n x = some (d, fz)) :
    ∃ K', RS P fo base K' ρ (closeB s fz) w ∧ (∀ B o v, K B o = some v → K' B o = some v) ∧ vo (closeB s fz) = vo s ∧ (∀ B o u, K' B o = some u → K B o = some u ∨ ∃ i b, getB s i = some b ∧ (ρ i).1 = B) ∧ RD fo K' d v := by
  obtain ⟨K', h1, h2, h3, h4, _, h6⟩ := closeB_spec fz h
  exact ⟨K', h1, h2, h3, h6, toD_spec rfl h4 n x d fz v hd (fun _ h => h) (hx.mono h2 .refl)⟩

/-! ### Renaming -/
section
variable {m : Nat → Option Nat} {ρ' : Places} {vv' : Nat → Option (Nat × Nat)}
/-- The renaming keeps places and versions. -/
def RenOk (m : Nat → Option Nat) (ρ ρ' : Places) (vv vv' : Nat → Option (Nat × Nat)) : Prop := ∀ i k p, m i = some k → vv i = some p → vv' k = some p ∧ ρ' k = ρ i
mutual
theorem RV.ren (hm : RenOk m ρ ρ' vv vv') : ∀ {x v}, RV fo K ρ vv x v → RV fo K ρ' vv' (ren m x) v
  | _, _, .poison v => by simp only [YtboekhenldifhaaGreat.ren]; exact .poison v
  | _, _, .d x v h => by simp only [YtboekhenldifhaaGreat.ren]; exact .d x v h
  | _, _, .nils => by simp only [YtboekhenldifhaaGreat.ren]; exact .nils
  | _, _, .emp a => by simp only [YtboekhenldifhaaGreat.ren]; exact .emp a
  | _, _, .non a c => by simp only [YtboekhenldifhaaGreat.ren]; exact .non a c
  | _, _, .lit es a h => by simp only [YtboekhenldifhaaGreat.ren]; exact .lit es a h
  | _, _, .ptr id ver i j v e a h1 h2 => by
    simp only [YtboekhenldifhaaGreat.ren]
    cases hk : m id with
    | none => exact .poison _
    | some k =>
      obtain ⟨e1, e2⟩ := hm id k _ hk h1
      exact .ptr k ver i j v e a e1 (fun h => by rw [e2]; exact h2 h)
  | _, _, .ms id ver off len v e a n cap h1 h2 => by
    simp only [YtboekhenldifhaaGreat.ren]
    cases hk : m id with
    | none => exact .poison _
    | some k =>
      obtain ⟨e1, e2⟩ := hm id k _ hk h1
      exact .ms k ver off len v e a n cap e1 (fun h => by rw [e2]; exact h2 h)
  | _, _, .asl id ver i j len v e a n cap h1 h2 => by
    simp only [YtboekhenldifhaaGreat.ren]
    cases hk : m id with
    | none => exact .poison _
    | some k =>
      obtain ⟨e1, e2⟩ := hm id k _ hk h1
      exact .asl k ver i j len v e a n cap e1 (fun h => by rw [e2]; exact h2 h)
  | _, _, .agg cs vs h => by simp only [YtboekhenldifhaaGreat.ren]; exact .agg _ vs (RVs.ren hm h)
  | _, _, .tuple cs vs h => by simp only [YtboekhenldifhaaGreat.ren]; exact .tuple _ vs (RVs.ren hm h)
  | _, _, .func f g a b va vb h h1 h2 => by simp only [YtboekhenldifhaaGreat.ren]; exact .func f g _ _ va vb h (RVs.ren hm h1) (RVs.ren hm h2)
  | _, _, .map id v h => by
    simp only [YtboekhenldifhaaGreat.ren]
    cases hk : m id with
    | none => exact .poison _
    | some k =>
      obtain ⟨e1, e2⟩ := hm id k _ hk h
      rw [← e2]; exact .map k v e1
  | _, _, .yield id v h => by
    simp only [YtboekhenldifhaaGreat.ren]
    cases hk : m id with
    | none => exact .poison _
    | some k =>
      obtain ⟨e1, e2⟩ := hm id k _ hk h
      rw [← e2]; exact .yield k v e1
theorem RVs.ren (hm : RenOk m ρ ρ' vv vv') : ∀ {x v}, RVs fo K ρ vv x v → RVs fo K ρ' vv' (renL m x) v
  | _, _, .nil => by simp only [YtboekhenldifhaaGreat.renL]; exact .nil
  | _, _, .cons x v xs vs h hs => by simp only [YtboekhenldifhaaGreat.renL]; exact .cons _ v _ vs (RV.ren hm h) (RVs.ren hm hs)
end
theorem renL_eq : ∀ (xs : List V), renL m xs = xs.map (ren m)
  | [] => rfl
  | x :: xs => by simp [renL, renL_eq xs]
theorem RBlk.ren (hm : RenOk m ρ ρ' vv vv') {b : Blk} {p : Nat × Nat} (h : RBlk P fo K ρ vv w b p) : RBlk P fo K ρ' vv' w (renB m b) p := by
  cases h with
  | rows ver ro esz els B size c t h1 h2 h3 h4 h5 h6 =>
    refine .rows ver ro esz _ B size c t h1 h2 (by simpa using h3) (fun r hr => ?_) (fun i r hi j x hj => ?_) h6
    · obtain ⟨r', hr', rfl⟩ := List.mem_map.1 hr
      rw [renL_eq]; simpa using h4 r' hr'
    · simp only [List.getElem?_map, Option.map_eq_some_iff] at hi
      obtain ⟨r', hr', rfl⟩ := hi
      rw [renL_eq] at hj
      simp only [List.getElem?_map, Option.map_eq_some_iff] at hj
      obtain ⟨x', hx', rfl⟩ := hj
      obtain ⟨v, e1, e2, e3⟩ := h5 i r' hr' j x' hx'
      exact ⟨v, e1, e2.ren hm, e3⟩
  | map es B size ents clock h1 h2 h3 h4 =>
    refine .map _ B size ents clock h1 (by simpa using h2) (fun i k x hi => ?_) h4
    simp only [List.getElem?_map, Option.map_eq_some_iff] at hi
    obtain ⟨⟨k', x'⟩, hk, he⟩ := hi
    injection he with e1 e2; subst e1; subst e2
    obtain ⟨e, e1, e2, e3⟩ := h3 i k' x' hk
    exact ⟨e, e1, e2, e3.ren hm⟩
  | loop st j env params a b' B size l N h1 h2 h3 h4 h5 h6 h7 h8 h9 h10 =>
    refine .loop st j _ params a b' B size l N h1 h2 h3 (fun t x hx => ?_) h5 h6 h7 h8 h9 h10
    simp only [renE, List.mem_map] at hx
    obtain ⟨⟨t', x'⟩, hx', he⟩ := hx
    injection he with e1 e2; subst e1; subst e2
    exact (h4 t' x' hx').ren hm
end
end Go.Proofs.YtboekhenldifhaaGreat
