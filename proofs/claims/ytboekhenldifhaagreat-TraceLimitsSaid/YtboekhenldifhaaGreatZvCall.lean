/- A call: the callee's store alone is looked at, and goes back into the caller's. -/
import Derived.Test.YtboekhenldifhaaGreatZvPack
set_option linter.unusedSimpArgs false
set_option linter.unusedVariables false
namespace Go.Proofs.YtboekhenldifhaaGreat
open Go.RowKit
variable {P : Program} {fo : Nat → Option FuncId} {K K' K0 K1 K2 : Known} {ρ ρ0 ρ2 : Places} {w w' w0 : World} {base : Nat} {s s' bs : Store} {vv : Nat → Option (Nat × Nat)}

/-- What a run ends in. -/
def Done (P : Program) (fo : Nat → Option FuncId) (base : Nat) (K : Known) (ρ : Places) (s : Store) (w : World) (r : V) (s' : Store) : Ending → World → Prop := fun e w' =>
  ∃ v K' ρ', e = .returned v ∧ RS P fo base K' ρ' s' w' ∧ Stp base K ρ s w K' ρ' s' w' ∧ RV fo K' ρ' (vo s') r v
/-- The call of a target, as the model knows it. -/
def Called (P : Program) (fo : Nat → Option FuncId) (ρ : Places) (t : Tgt) (vargs : Array Value) (w : World) (R : Ending → World → Prop) : Prop :=
  match t with
  | .fn f => ∀ g, fo f = some g → CallsIn Fence.wide 0 P g vargs w R
  | .round id => ∃ l, w.heap[(ρ id).1]? = some (.loop l) ∧ vargs.size = l.params.size ∧ RoundIn Fence.wide 0 P (ρ id).1 l.fn ((l.params.zip vargs).foldl (fun tmps (t, a) => tmps.setIfInBounds t a) l.tmps) l.assign l.body w R
theorem Called.mono {t : Tgt} {vargs : Array Value} {R R' : Ending → World → Prop} (h : Called P fo ρ t vargs w R) (hr : ∀ e w, R e w → R' e w) : Called P fo ρ t vargs w R' := by
  cases t with
  | fn f => exact fun g hg => (h g hg).mono hr
  | round id => exact let ⟨l, h1, h2, h3⟩ := h; ⟨l, h1, h2, h3.mono hr⟩
def CallOK (P : Program) (fo : Nat → Option FuncId) (base : Nat) (call : CallSem) : Prop :=
  ∀ (t : Tgt) (K : Known) (ρ : Places) (bs : Store) (w : World) (args : List V) (vargs : Array Value) (r : V) (bs' : Store),
    RS P fo base K ρ bs w → RVs fo K ρ (vo bs) args vargs.toList → call t args bs = some (r, bs') → Called P fo ρ t vargs w (Done P fo base K ρ bs w r bs')

theorem convArgs_spec {T : List Nat} (hK : ∀ id ∈ T, KnownB fo K' ρ (vo s) s id) (hKK : ∀ B o v, K B o = some v → K' B o = some v) : ∀ {args as : List V} {vs : List Value} {flags : List Bool} {fz : List Nat}, RVs fo K ρ (vo s) args vs →
    convArgs s flags args = some (as, fz) → (∀ i ∈ fz, i ∈ T) → RVs fo K' ρ (vo s) as vs
  | _, _, _, flags, _, .nil, h, _ => by
    have : convArgs s flags [] = some ([], []) := by cases flags with | nil => rfl | cons b _ => cases b <;> rfl
    rw [this] at h; injection h with h; injection h with h1 h2; subst h1; exact .nil
  | _, as, _, flags, fz, .cons x v xs vs hx hs, h, hT => by
    have step : ∀ fs : List Bool, (match toD s depthD x, convArgs s fs xs with | some (d, a), some (ys, b) => some (V.d d :: ys, a ++ b) | _, _ => none) = some (as, fz) → RVs fo K' ρ (vo s) as (v :: vs) := fun fs h => by
      split at h <;> try (cases h; done)
      rename_i d a ys b e1 e2
      injection h with h; injection h with h1 h2; subst h1; subst h2
      exact .cons _ _ _ _ (.d _ _ (toD_spec rfl hK depthD x d a v e1 (fun i hi => hT i (by simp [hi])) (hx.mono hKK .refl))) (convArgs_spec hK hKK hs e2 fun i hi => hT i (by simp [hi]))
    cases flags with
    | nil => exact step [] h
    | cons b fs =>
      cases b with
      | false => exact step fs h
      | true =>
        simp only [convArgs, Option.map_eq_some_iff] at h
        obtain ⟨⟨ys, a⟩, h, he⟩ := h
        injection he with h1 h2; subst h1; subst h2
        exact .cons _ _ _ _ (hx.mono hKK .refl) (convArgs_spec hK hKK hs h hT)
theorem RD.flat {d : D} {v : Value} (h : RD fo K d v) (hf : flatD d = true) : RD fo K' d v := by
  cases h with
  | tuple cs vs hvs =>
    simp only [flatD] at hf
    refine .tuple _ _ (.of_get hvs.length fun i d v hd hv => ?_)
    obtain ⟨u, e1, e2⟩ := hvs.get hd
    rw [hv] at e1; injection e1 with e1; subst e1
    have := List.all_eq_true.1 hf d (List.mem_of_getElem? hd)
    cases e2 <;> first | exact .bool _ | exact .int _ _ | exact .str _ | (simp at this; done)
  | bool => exact .bool _
  | int => exact .int _ _
  | str => exact .str _
  | nilp => exact .nilp
  | nilf => exact .nilf
  | nilm => exact .nilm
  | nili => exact .nili
  | _ => simp [flatD] at hf

/-! ### Back into the caller's store -/
def placesBack (ρ ρ2 : Places) (ids : List Nat) (n0 : Nat) : Places := fun j => if j < n0 then (match pos ids j with | some k => ρ2 k | none => ρ j) else ρ2 (ids.length + (j - n0))
theorem getB_storeBack {m : Nat → Option Nat} {ids : List Nat} {j : Nat} (hn : ids.Nodup) (hl : ∀ i ∈ ids, i < s.length) (h : ids.length ≤ bs.length) :
    getB (storeBack ids bs s m) j = if j < s.length then (match pos ids j with | some k => (getB bs k).map (renB m) | none => getB s j) else (getB bs (ids.length + (j - s.length))).map (renB m) := by
  unfold storeBack
  rw [getB_append, backB_length, getB_back hn hl h, getB_map, getB_drop]
  cases pos ids j <;> rfl
theorem vo_map {m : Nat → Option Nat} {b : Option Blk} {a c : Store} {i j : Nat} (h : getB a i = (getB c j).map (renB m)) : vo a i = vo c j := by
  unfold vo
  rw [h]
  cases getB c j with
  | none => rfl
  | some b => cases b <;> rfl
theorem vo_eq {a c : Store} {i j : Nat} (h : getB a i = getB c j) : vo a i = vo c j := by unfold vo; rw [h]
theorem vo_lt {id : Nat} {p : Nat × Nat} (h : vo s id = some p) : ∃ b, getB s id = some b ∧ id < s.length := by
  unfold vo at h
  cases hb : getB s id with
  | none => simp [hb] at h
  | some b => exact ⟨b, rfl, getB_lt hb⟩
section
variable {ids : List Nat}
theorem vo_storeBack {m : Nat → Option Nat} {j : Nat} (hn : ids.Nodup) (hl : ∀ i ∈ ids, i < s.length) (h : ids.length ≤ bs.length) :
    vo (storeBack ids bs s m) j = if j < s.length then (match pos ids j with | some k => vo bs k | none => vo s j) else vo bs (ids.length + (j - s.length)) := by
  have := getB_storeBack (m := m) (j := j) hn hl h
  split at this
  · rename_i hj
    rw [if_pos hj]
    split at this
    · exact vo_map (b := none) this
    · exact vo_eq this
  · rename_i hj
    rw [if_neg hj]
    exact vo_map (b := none) this
theorem renOk_back (hn : ids.Nodup) (hl : ∀ i ∈ ids, i < s.length) (h : ids.length ≤ bs.length) :
    RenOk (backOf ids bs s.length) ρ2 (placesBack ρ ρ2 ids s.length) (vo bs) (vo (storeBack ids bs s (backOf ids bs s.length))) := fun i k p hk hp => by
  rw [vo_storeBack hn hl h]
  unfold backOf at hk
  split at hk
  · have hkl := hl k (List.mem_of_getElem? hk)
    simp only [placesBack, if_pos hkl, pos_get hn hk]
    exact ⟨hp, trivial⟩
  · rename_i hi
    split at hk <;> try (cases hk; done)
    injection hk with hk; subst hk
    have hnl : ¬ (s.length + (i - ids.length) < s.length) := by omega
    have e : ids.length + (s.length + (i - ids.length) - s.length) = i := by omega
    simp only [placesBack, if_neg hnl, e]
    exact ⟨hp, trivial⟩
theorem RS.back (hS : RS P fo base K1 ρ s w) (hn : ids.Nodup) (hl : ∀ i ∈ ids, ∃ b, getB s i = some b) (hC : RS P fo base K2 ρ2 bs w')
    (hT : Stp base K1 (placesOf ρ ids) (YtboekhenldifhaaGreat.pack s ids (pos ids)) w K2 ρ2 bs w') (h : ids.length ≤ bs.length) :
    RS P fo base K2 (placesBack ρ ρ2 ids s.length) (storeBack ids bs s (backOf ids bs s.length)) w' ∧
    Stp base K1 ρ s w K2 (placesBack ρ ρ2 ids s.length) (storeBack ids bs s (backOf ids bs s.length)) w' := by
  have hl' : ∀ i ∈ ids, i < s.length := fun i hi => let ⟨b, hb⟩ := hl i hi; getB_lt hb
  have hren : RenOk (backOf ids bs s.length) ρ2 (placesBack ρ ρ2 ids s.length) (vo bs) (vo (storeBack ids bs s (backOf ids bs s.length))) := renOk_back hn hl' h
  -- a block of the callee's at its start is one of the caller's that was handed over
  have hpk : ∀ k b, getB (YtboekhenldifhaaGreat.pack s ids (pos ids)) k = some b → ∃ i b0, ids[k]? = some i ∧ getB s i = some b0 ∧ placesOf ρ ids k = ρ i := fun k b hb => by
    rw [getB_pack] at hb
    cases hi : ids[k]? with
    | none => simp [hi] at hb
    | some i =>
      simp only [hi, Option.bind_some, Option.map_eq_some_iff] at hb
      obtain ⟨b0, h0, _⟩ := hb
      exact ⟨i, b0, rfl, h0, by simp [placesOf, List.getD, hi]⟩
  have hpriv : ∀ j b, getB s j = some b → pos ids j = none → ∀ k b', getB (YtboekhenldifhaaGreat.pack s ids (pos ids)) k = some b' → (placesOf ρ ids k).1 ≠ (ρ j).1 := fun j b hj hp k b' hk he => by
    obtain ⟨i, b0, h1, h2, h3⟩ := hpk k b' hk
    rw [h3] at he
    have := hS.inj i j b0 b h2 hj he
    subst this
    exact (pos_none.1 hp) (List.mem_of_getElem? h1)
  have hL : Later ρ (placesBack ρ ρ2 ids s.length) (vo s) (vo (storeBack ids bs s (backOf ids bs s.length))) := fun id v e hv => by
    obtain ⟨b, hb, hlt⟩ := vo_lt hv
    rw [vo_storeBack hn hl' h, if_pos hlt]
    simp only [placesBack, if_pos hlt]
    cases hp : pos ids id with
    | none => exact ⟨v, hv, Nat.le_refl _, fun _ => rfl, fun _ => rfl⟩
    | some k =>
      obtain ⟨v', a1, a2, a3, a4⟩ := hT.later k v e (by rw [vo_pack, pos_some hp]; exact hv)
      refine ⟨v', a1, a2, fun he => ?_, a4⟩
      simp only [a3 he]
      simp [placesOf, List.getD, pos_some hp]
  -- what a block of the result is
  have hres : ∀ j b, getB (storeBack ids bs s (backOf ids bs s.length)) j = some b →
      (∃ k b0, getB bs k = some b0 ∧ b = renB (backOf ids bs s.length) b0 ∧ placesBack ρ ρ2 ids s.length j = ρ2 k ∧ ((j < s.length ∧ pos ids j = some k) ∨ (¬ j < s.length ∧ k = ids.length + (j - s.length)))) ∨
      (getB s j = some b ∧ pos ids j = none ∧ placesBack ρ ρ2 ids s.length j = ρ j) := fun j b hj => by
    rw [getB_storeBack hn hl' h] at hj
    split at hj
    · rename_i hlt
      split at hj
      · rename_i k hk
        simp only [Option.map_eq_some_iff] at hj
        obtain ⟨b0, h0, rfl⟩ := hj
        exact .inl ⟨k, b0, h0, rfl, by simp only [placesBack, if_pos hlt, hk], .inl ⟨hlt, hk⟩⟩
      · rename_i hk
        exact .inr ⟨hj, hk, by simp only [placesBack, if_pos hlt, hk]⟩
    · rename_i hlt
      simp only [Option.map_eq_some_iff] at hj
      obtain ⟨b0, h0, rfl⟩ := hj
      exact .inl ⟨_, b0, h0, rfl, by simp only [placesBack, if_neg hlt], .inr ⟨hlt, rfl⟩⟩
  have hcross : ∀ k b0 j b, getB bs k = some b0 → getB s j = some b → pos ids j = none → (ρ2 k).1 ≠ (ρ j).1 := fun k b0 j b hk hj hp he => by
    have hlt := (hS.blk j b hj).1.lt
    obtain ⟨i, b1, h1, h2⟩ := hT.img k b0 hk (by rw [he]; exact hlt)
    exact hpriv j b hj hp i b1 h1 (h2.trans he)
  refine ⟨⟨hC.known, fun j b hj => ?_, fun i j a b ha hb he => ?_, hC.base, hC.one⟩, ⟨hT.known, hL, hT.below, fun B hB hno => ?_, fun j b hj hlt => ?_, fun B o v hv hv' hB => ?_⟩⟩
  · rcases hres j b hj with ⟨k, b0, h0, rfl, hp, _⟩ | ⟨h0, hp, hpl⟩
    · rw [hp]
      obtain ⟨a1, a2⟩ := hC.blk k b0 h0
      exact ⟨a1.ren hren, a2⟩
    · rw [hpl]
      obtain ⟨a1, a2⟩ := hS.blk j b h0
      refine ⟨a1.mono hT.known hL (hT.frame _ a1.lt fun k b' hk => hpriv j b h0 hp k b' hk) (fun hno o => ?_), a2⟩
      cases hk2 : K2 (ρ j).1 o with
      | none => rfl
      | some u =>
        obtain ⟨i, b1, h1, h2⟩ := hT.learn _ o u hk2 (hno o) a1.lt
        exact absurd h2 (hpriv j b h0 hp i b1 h1)
  · rcases hres i a ha with ⟨k, b0, h0, rfl, hp, hk⟩ | ⟨h0, hp, hpl⟩ <;> rcases hres j b hb with ⟨k', b0', h0', rfl, hp', hk'⟩ | ⟨h0', hp', hpl'⟩
    · rw [hp, hp'] at he
      have := hC.inj k k' b0 b0' h0 h0' he
      subst this
      rcases hk with ⟨l1, p1⟩ | ⟨l1, p1⟩ <;> rcases hk' with ⟨l2, p2⟩ | ⟨l2, p2⟩
      · have q1 := pos_some p1; rw [pos_some p2] at q1; injection q1 with q1; exact q1.symm
      · have := (List.getElem?_eq_some_iff.1 (pos_some p1)).1; omega
      · have := (List.getElem?_eq_some_iff.1 (pos_some p2)).1; omega
      · omega
    · rw [hp, hpl'] at he
      exact absurd he (hcross k b0 j b h0 h0' hp')
    · rw [hpl, hp'] at he
      exact absurd he.symm (hcross k' b0' i a h0' h0 hp)
    · rw [hpl, hpl'] at he
      exact hS.inj i j a b h0 h0' he
  · refine hT.frame B hB fun k b hk => ?_
    obtain ⟨i, b0, _, h2, h3⟩ := hpk k b hk
    rw [h3]; exact hno i b0 h2
  · rcases hres j b hj with ⟨k, b0, h0, rfl, hp, _⟩ | ⟨h0, hp, hpl⟩
    · rw [hp] at hlt ⊢
      obtain ⟨k', b1, h1, h2⟩ := hT.img k b0 h0 hlt
      obtain ⟨i, b2, _, h4, h5⟩ := hpk k' b1 h1
      exact ⟨i, b2, h4, by rw [← h5]; exact h2⟩
    · exact ⟨j, b, h0, by rw [hpl]⟩
  · obtain ⟨k, b1, h1, h2⟩ := hT.learn B o v hv hv' hB
    obtain ⟨i, b2, _, h4, h5⟩ := hpk k b1 h1
    exact ⟨i, b2, h4, by rw [← h5]; exact h2⟩
end
theorem Done.mk' {v : Value} {r : V} (h1 : RS P fo base K' ρ2 s' w') (h2 : Stp base K ρ s w K' ρ2 s' w') (h3 : RV fo K' ρ2 (vo s') r v) : Done P fo base K ρ s w r s' (.returned v) w' := ⟨v, K', ρ2, rfl, h1, h2, h3⟩
theorem Called.ren {t t' : Tgt} {ρ' : Places} {m : Nat → Option Nat} {vargs : Array Value} {R : Ending → World → Prop} (ht : tgtAt m t = some t') (hm : ∀ i k, m i = some k → ρ' k = ρ i)
    (h : Called P fo ρ' t' vargs w R) : Called P fo ρ t vargs w R := by
  cases t with
  | fn f => injection ht with ht; subst ht; exact h
  | round id =>
    simp only [tgtAt, Option.map_eq_some_iff] at ht
    obtain ⟨k, hk, rfl⟩ := ht
    have := hm id k hk
    simp only [Called, this] at h
    exact h
theorem pack_congr {ids : List Nat} {m : Nat → Option Nat} (h : ∀ i ∈ ids, getB s i = getB s' i) : pack s ids m = pack s' ids m := by
  unfold pack
  exact List.map_congr_left fun i hi => by rw [h i hi]
theorem ren_flat {m : Nat → Option Nat} {d : D} : ren m (.d d) = .d d := by simp [ren]
theorem callOut_spec {call : CallSem} {t : Tgt} {flags : List Bool} {args : List V} {vargs : Array Value} {r : V} (hc : CallOK P fo base call) (hS : RS P fo base K ρ s w) (hargs : RVs fo K ρ (vo s) args vargs.toList)
    (h : callOut call t flags args s = some (r, s')) : Called P fo ρ t vargs w (Done P fo base K ρ s w r s') := by
  unfold callOut at h
  cases hca : convArgs s flags args with
  | none => simp [hca] at h
  | some p =>
    obtain ⟨as, fz⟩ := p
    simp only [hca] at h
    generalize hids : reach s (budget s) (rootsT t ++ refsL as) [] = ids at h
    unfold callIds at h
    split at h <;> try (cases h; done)
    rename_i hfz
    split at h <;> try (cases h; done)
    rename_i t' ht'
    split at h <;> try (cases h; done)
    rename_i r0 bs hcall
    split at h <;> try (cases h; done)
    rename_i hlen
    injection h with h; injection h with h1 h2; subst h1; subst h2
    obtain ⟨hlen, _⟩ := hlen
    obtain ⟨K1, c1, c2, c3, c4, c5, c6⟩ := closeB_spec fz hS
    have hreach : ids.Nodup ∧ ∀ i ∈ ids, ∃ b, getB s i = some b := by
      obtain ⟨tt, e1, e2, e3⟩ := reach_ext s (budget s) (rootsT t ++ refsL as) []
      rw [hids] at e1 e3
      exact ⟨e3 (by simp), fun i hi => e2 i (by rw [e1] at hi; simpa using hi)⟩
    have hdis : ∀ i ∈ ids, i ∉ fz := fun i hi => by have := List.all_eq_true.1 hfz i hi; simpa using this
    have hpk : YtboekhenldifhaaGreat.pack (closeB s fz) ids (pos ids) = YtboekhenldifhaaGreat.pack s ids (pos ids) := pack_congr fun i hi => closeB_other (hdis i hi)
    have hP := c1.pack hreach.1
    have hren : RenOk (pos ids) ρ (placesOf ρ ids) (vo s) (vo (YtboekhenldifhaaGreat.pack s ids (pos ids))) := renOk_pack
    have hA : RVs fo K1 (placesOf ρ ids) (vo (YtboekhenldifhaaGreat.pack s ids (pos ids))) (renL (pos ids) as) vargs.toList :=
      (convArgs_spec c4 c2 hargs hca fun _ h => h).ren hren
    rw [hpk] at hP
    have hmain := hc t' K1 (placesOf ρ ids) (YtboekhenldifhaaGreat.pack s ids (pos ids)) w _ vargs r0 bs hP hA hcall
    refine Called.ren ht' (fun i k hk => by simp [placesOf, List.getD, pos_some hk]) (hmain.mono fun e w' he => ?_)
    obtain ⟨v, K2, ρ2, rfl, d1, d2, d3⟩ := he
    by_cases hlend : lends ids bs r0 = true
    · rw [if_pos hlend]
      simp only [lends, Bool.and_eq_true, List.isEmpty_iff] at hlend
      obtain ⟨⟨hi0, hb0⟩, hfl⟩ := hlend
      subst hi0; subst hb0
      split at hfl <;> try (cases hfl; done)
      rename_i x
      have hold : ∀ B, B < w.heap.size → w'.heap[B]? = w.heap[B]? := fun B hB => d2.frame B hB fun id b hb => by simp [YtboekhenldifhaaGreat.pack, getB] at hb
      have hstore : ∀ m, storeBack [] [] s m = s := fun m => by simp [storeBack, backB]
      rw [hstore, ren_flat]
      refine .mk' (K' := K) (ρ2 := ρ) ⟨fun B o u hu => ?_, fun j b hj => ?_, hS.inj, d1.base, hS.one⟩ ⟨fun _ _ _ h => h, .refl, d2.below, fun B hB _ => hold B hB, fun j b hj _ => ⟨j, b, hj, rfl⟩, fun B o u h1 h2 _ => by rw [h1] at h2; cases h2⟩ ?_
      · obtain ⟨c, ty, z, e1, e2⟩ := hS.known B o u hu
        exact ⟨c, ty, z, (hold B (Array.getElem?_eq_some_iff.1 e1).1).trans e1, e2⟩
      · obtain ⟨a1, a2⟩ := hS.blk j b hj
        exact ⟨a1.mono (fun _ _ _ h => h) .refl (hold _ a1.lt) (fun h => h), a2⟩
      · cases d3 with
        | d _ _ hd => exact .d _ _ (hd.flat hfl)
    · rw [if_neg hlend]
      have hl1 : ∀ i ∈ ids, ∃ b, getB (closeB s fz) i = some b := fun i hi => by rw [closeB_other (hdis i hi)]; exact hreach.2 i hi
      rw [← hpk] at d2
      obtain ⟨e1, e2⟩ := c1.back hreach.1 hl1 d1 d2 hlen
      have hlt : ∀ i ∈ ids, i < (closeB s fz).length := fun i hi => let ⟨b, hb⟩ := hl1 i hi; getB_lt hb
      have hrv := d3.ren (renOk_back (ρ := ρ) hreach.1 hlt hlen)
      rw [c5] at e1 e2 hrv
      exact .mk' e1 ((Stp.close (ids := fz) c2 c3 c6).trans e2) hrv
end Go.Proofs.YtboekhenldifhaaGreat
