/- The blocks that are reached, and the store of them alone. -/
import Derived.Test.YtboekhenldifhaaGreatZvRen
set_option linter.unusedSimpArgs false
set_option linter.unusedVariables false
namespace Go.Proofs.YtboekhenldifhaaGreat
open Go.RowKit
variable {P : Program} {fo : Nat → Option FuncId} {K K' K0 : Known} {ρ ρ0 : Places} {w w0 : World} {base : Nat} {s s' bs : Store} {vv : Nat → Option (Nat × Nat)}

theorem reach_ext (s : Store) : ∀ (n : Nat) (todo seen : List Nat), ∃ t, reach s n todo seen = seen ++ t ∧ (∀ i ∈ t, ∃ b, getB s i = some b) ∧ (seen.Nodup → (reach s n todo seen).Nodup)
  | 0, todo, seen => ⟨[], by simp [reach], by simp, by simp [reach]⟩
  | n + 1, [], seen => ⟨[], by simp [reach], by simp, by simp [reach]⟩
  | n + 1, i :: todo, seen => by
    simp only [reach]
    split
    · exact reach_ext s n todo seen
    · rename_i hc
      cases hb : getB s i with
      | none => exact reach_ext s n todo seen
      | some b =>
        obtain ⟨t, h1, h2, h3⟩ := reach_ext s n (todo ++ refsB b) (seen ++ [i])
        refine ⟨i :: t, by simp only []; rw [h1]; simp, fun j hj => ?_, fun hn => h3 ?_⟩
        · rcases List.mem_cons.1 hj with rfl | hj
          · exact ⟨b, hb⟩
          · exact h2 j hj
        · have : i ∉ seen := by simpa using hc
          rw [List.nodup_append]
          exact ⟨hn, by simp, fun a ha b hb => by simp at hb; subst hb; rintro rfl; exact this ha⟩
theorem pos_cons {i j : Nat} {ids : List Nat} : pos (i :: ids) j = if i = j then some 0 else (pos ids j).map (· + 1) := by
  simp [pos, List.findIdx?_cons]
theorem pos_some : ∀ {ids : List Nat} {i k : Nat}, pos ids i = some k → ids[k]? = some i
  | [], _, _, h => by simp [pos] at h
  | a :: ids, i, k, h => by
    rw [pos_cons] at h
    split at h
    · injection h with h; subst h; simp; assumption
    · simp only [Option.map_eq_some_iff] at h
      obtain ⟨k', h, rfl⟩ := h
      simpa using pos_some h
theorem pos_get : ∀ {ids : List Nat} {i k : Nat}, ids.Nodup → ids[k]? = some i → pos ids i = some k
  | [], _, _, _, h => by simp at h
  | a :: ids, i, k, hn, h => by
    rw [pos_cons]
    cases k with
    | zero => simp at h; simp [h]
    | succ k =>
      simp at h
      have hn' := List.nodup_cons.1 hn
      have hmem := List.mem_of_getElem? h
      rw [if_neg (by intro e; rw [e] at hn'; exact hn'.1 hmem), pos_get hn'.2 h]
      rfl
theorem pos_none : ∀ {ids : List Nat} {i : Nat}, pos ids i = none ↔ i ∉ ids
  | [], _ => by simp [pos]
  | a :: ids, i => by
    rw [pos_cons]
    split
    · rename_i h; simp [h]
    · rename_i h; simp [pos_none, Ne.symm h]
theorem getB_pack {ids : List Nat} {m : Nat → Option Nat} {k : Nat} : getB (pack s ids m) k = (ids[k]?).bind fun i => (getB s i).map (renB m) := by
  simp only [getB, pack, List.getElem?_map]
  cases ids[k]? <;> rfl
theorem vo_pack {ids : List Nat} {m : Nat → Option Nat} {k : Nat} : vo (pack s ids m) k = (ids[k]?).bind (vo s) := by
  simp only [vo, getB_pack]
  cases ids[k]? with
  | none => rfl
  | some i =>
    simp only [Option.bind_some]
    unfold vo
    cases getB s i with
    | none => rfl
    | some b => cases b <;> rfl
/-- The places of the packed blocks. -/
def placesOf (ρ : Places) (ids : List Nat) : Places := fun k => ρ (ids.getD k 0)
theorem renOk_pack {ids : List Nat} : RenOk (pos ids) ρ (placesOf ρ ids) (vo s) (vo (pack s ids (pos ids))) := fun i k p h h' => by
  have := pos_some h
  exact ⟨by rw [vo_pack, this]; exact h', by simp [placesOf, List.getD, this]⟩
theorem RS.pack {ids : List Nat} (h : RS P fo base K ρ s w) (hn : ids.Nodup) : RS P fo base K (placesOf ρ ids) (pack s ids (pos ids)) w where
  known := h.known
  blk k b hb := by
    rw [getB_pack] at hb
    cases hi : ids[k]? with
    | none => simp [hi] at hb
    | some i =>
      simp only [hi, Option.bind_some, Option.map_eq_some_iff] at hb
      obtain ⟨b0, h0, rfl⟩ := hb
      obtain ⟨h1, h2⟩ := h.blk i b0 h0
      have e : placesOf ρ ids k = ρ i := by simp [placesOf, List.getD, hi]
      rw [e]
      exact ⟨h1.ren renOk_pack, h2⟩
  inj j k a b ha hb he := by
    rw [getB_pack] at ha hb
    cases hj : ids[j]? with
    | none => simp [hj] at ha
    | some i =>
      cases hk : ids[k]? with
      | none => simp [hk] at hb
      | some i' =>
        simp only [hj, hk, Option.bind_some, Option.map_eq_some_iff] at ha hb
        obtain ⟨a0, ha, _⟩ := ha
        obtain ⟨b0, hb, _⟩ := hb
        have e1 : placesOf ρ ids j = ρ i := by simp [placesOf, List.getD, hj]
        have e2 : placesOf ρ ids k = ρ i' := by simp [placesOf, List.getD, hk]
        rw [e1, e2] at he
        have := h.inj i i' a0 b0 ha hb he
        subst this
        have h1 := pos_get hn hj
        have h2 := pos_get hn hk
        rw [h1] at h2; injection h2
  base := h.base
  one := h.one
theorem Stp.pack {ids : List Nat} (h : Stp base K0 ρ0 bs w0 K ρ s w) (hk : ∀ i, i < bs.length → ids[i]? = some i) : Stp base K0 ρ0 bs w0 K (placesOf ρ ids) (pack s ids (pos ids)) w where
  known := h.known
  later id v e hv := by
    obtain ⟨v', h1, h2, h3, h4⟩ := h.later id v e hv
    have hlt : id < bs.length := by
      unfold vo at hv
      split at hv
      · exact getB_lt (by assumption)
      · exact getB_lt (by assumption)
      · cases hv
    exact ⟨v', by rw [vo_pack, hk id hlt]; exact h1, h2, fun he => by rw [← h3 he]; simp [placesOf, List.getD, hk id hlt], h4⟩
  below := h.below
  frame := h.frame
  img k b' hb hlt := by
    rw [getB_pack] at hb
    cases hi : ids[k]? with
    | none => simp [hi] at hb
    | some i =>
      simp only [hi, Option.bind_some, Option.map_eq_some_iff] at hb
      obtain ⟨b0, h0, _⟩ := hb
      have e : placesOf ρ ids k = ρ i := by simp [placesOf, List.getD, hi]
      rw [e] at hlt ⊢
      exact h.img i b0 h0 hlt
  learn := h.learn
theorem gcIds_spec (s : Store) (k : Nat) (roots : List Nat) : (gcIds s k roots).Nodup ∧ ∀ i, i < k → (gcIds s k roots)[i]? = some i := by
  obtain ⟨t, h1, _, h3⟩ := reach_ext s (budget s) (roots ++ refsAt s (List.range k)) (List.range k)
  refine ⟨h3 List.nodup_range, fun i hi => ?_⟩
  unfold gcIds
  rw [h1, List.getElem?_append_left (by simpa using hi)]
  simp [hi]

/-! ### A call's store goes back -/
theorem getB_set {j i : Nat} {b : Option Blk} (h : i < s.length) : getB (s.set i b) j = if j = i then b else getB s j := by
  split
  · rename_i e; subst e; exact getB_set_same h
  · rename_i e; exact getB_set_other e
theorem getB_cons_zero {b : Option Blk} : getB (b :: s) 0 = b := by simp [getB]
theorem getB_cons_succ {b : Option Blk} {k : Nat} : getB (b :: s) (k + 1) = getB s k := by simp [getB]
theorem backB_length {m : Nat → Option Nat} : ∀ (ids : List Nat) (bs s : Store), (backB m ids bs s).length = s.length
  | [], bs, s => by simp [backB]
  | i :: ids, [], s => by simp [backB]
  | i :: ids, b :: bs, s => by simp [backB, backB_length ids bs]
theorem getB_back {m : Nat → Option Nat} {j : Nat} : ∀ {ids : List Nat} {bs s : Store}, ids.Nodup → (∀ i ∈ ids, i < s.length) → ids.length ≤ bs.length →
    getB (backB m ids bs s) j = match pos ids j with | some k => (getB bs k).map (renB m) | none => getB s j
  | [], bs, s, _, _, _ => by simp [backB, pos]
  | i :: ids, [], s, _, _, h => by simp at h
  | i :: ids, b :: bs, s, hn, hl, h => by
    have hn' := List.nodup_cons.1 hn
    rw [backB, getB_back hn'.2 (fun a ha => by simpa using hl a (by simp [ha])) (by simpa using h), pos_cons, getB_set (hl i (by simp))]
    by_cases hij : i = j
    · subst hij
      rw [pos_none.2 hn'.1, if_pos rfl, if_pos rfl]
      simp [getB_cons_zero]
    · rw [if_neg hij]
      cases hp : pos ids j with
      | none => simp [Ne.symm hij]
      | some k => simp [getB_cons_succ]
theorem getB_append {a b : Store} {j : Nat} : getB (a ++ b) j = if j < a.length then getB a j else getB b (j - a.length) := by
  unfold getB
  split
  · rw [List.getElem?_append_left (by assumption)]
  · rw [List.getElem?_append_right (by omega)]
theorem getB_map {f : Blk → Blk} {k : Nat} : getB (s.map fun b => b.map f) k = (getB s k).map f := by
  simp only [getB, List.getElem?_map]
  cases s[k]? <;> rfl
theorem getB_drop {n k : Nat} : getB (s.drop n) k = getB s (n + k) := by simp [getB]
theorem closeB_other : ∀ {fz : List Nat} {s : Store} {j : Nat}, j ∉ fz → getB (closeB s fz) j = getB s j
  | [], _, _, _ => rfl
  | id :: fz, s, j, h => by
    rw [closeB_cons, closeB_other (fun hh => h (by simp [hh]))]
    have hj : j ≠ id := fun e => h (by simp [e])
    split
    · exact getB_set_other hj
    · rfl
end Go.Proofs.YtboekhenldifhaaGreat
