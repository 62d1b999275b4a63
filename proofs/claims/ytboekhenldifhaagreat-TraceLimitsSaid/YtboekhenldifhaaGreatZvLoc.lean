/- What an operation looks at, and what it leaves alone. -/
import Derived.Test.YtboekhenldifhaaGreatZvCall
import Derived.Test.YtboekhenldifhaaGreatZvEq
set_option linter.unusedSimpArgs false
set_option linter.unusedVariables false
set_option linter.unnecessarySimpa false
namespace Go.Proofs.YtboekhenldifhaaGreat
open Go.RowKit
variable {s s' s2 s2' : Store} {e e2 : Env}

/-! ### The environment -/
theorem ev_congr {x : Opd} (h : ∀ t ∈ tOf x, e2 t = e t) : ev e2 x = ev e x := by
  cases x with
  | t n => exact h n (by simp [tOf])
  | c v => rfl
theorem evs_congr {l : List Opd} (h : ∀ t ∈ tsOf l, e2 t = e t) : l.map (ev e2) = l.map (ev e) :=
  List.map_congr_left fun x hx => ev_congr fun t ht => h t (List.mem_flatMap.2 ⟨x, hx, ht⟩)
theorem evo_congr {x : Option Opd} (h : ∀ t ∈ tsOf x.toList, e2 t = e t) : x.map (ev e2) = x.map (ev e) := by
  cases x with
  | none => rfl
  | some x => simp only [Option.map_some]; rw [ev_congr fun t ht => h t (by simpa [tsOf] using ht)]
theorem mem_ts {x : Opd} {l : List Opd} {t : Nat} (hx : x ∈ l) (ht : t ∈ tOf x) : t ∈ tsOf l := List.mem_flatMap.2 ⟨x, hx, ht⟩
theorem ts_app {a b : List Opd} {t : Nat} : t ∈ tsOf (a ++ b) ↔ t ∈ tsOf a ∨ t ∈ tsOf b := by simp [tsOf]
theorem ts_cons {x : Opd} {b : List Opd} {t : Nat} : t ∈ tsOf (x :: b) ↔ t ∈ tOf x ∨ t ∈ tsOf b := by simp [tsOf]
theorem parts_congr {α : Type} {l : List α} {g : α → Opd} {β : Type} {f : α → V → β} (h : ∀ t ∈ tsOf (l.map g), e2 t = e t) : (l.map fun p => f p (ev e2 (g p))) = l.map fun p => f p (ev e (g p)) :=
  List.map_congr_left fun p hp => by rw [ev_congr fun t ht => h t (mem_ts (List.mem_map.2 ⟨p, hp, rfl⟩) ht)]
section
variable {call : CallSem} {flags : Nat → List Bool} {base : Nat} {fine : Bool}
theorem runOp_env {op : VOp} (h : ∀ t ∈ tsOf (opds op), e2 t = e t) : runOp call flags base op e2 s = runOp call flags base op e s ∧ footOp fine flags base op e2 s s' = footOp fine flags base op e s s' := by
  have h1 : ∀ x ∈ opds op, ev e2 x = ev e x := fun x hx => ev_congr fun t ht => h t (mem_ts hx ht)
  cases op with
  | build z ps =>
    have := parts_congr (l := ps) (g := fun p => p.2.2) (f := fun p v => (p.1, p.2.1, v)) (by simpa [opds] using h)
    simp only [runOp, footOp] at this ⊢; rw [this]; simp
  | bslice esz z n ps =>
    have := parts_congr (l := ps) (g := fun p => p.2) (f := fun p v => (p.1, v)) (by simpa [opds] using h)
    simp only [runOp, footOp] at this ⊢; rw [this]; simp
  | mslice slot esz z n ps =>
    have := parts_congr (l := ps) (g := fun p => p.2) (f := fun p v => (p.1, v)) (by simpa [opds] using h)
    simp only [runOp, footOp] at this ⊢; rw [this]; simp
  | slice esz x lo hi =>
    have a := h1 x (by simp [opds])
    have b : lo.map (ev e2) = lo.map (ev e) := evo_congr fun t ht => h t (ts_cons.2 (.inr (ts_app.2 (.inl ht))))
    have c : hi.map (ev e2) = hi.map (ev e) := evo_congr fun t ht => h t (ts_cons.2 (.inr (ts_app.2 (.inr ht))))
    simp only [runOp, footOp, a, b, c, and_self]
  | slarr n esz x lo hi =>
    have a := h1 x (by simp [opds])
    have b : lo.map (ev e2) = lo.map (ev e) := evo_congr fun t ht => h t (ts_cons.2 (.inr (ts_app.2 (.inl ht))))
    have c : hi.map (ev e2) = hi.map (ev e) := evo_congr fun t ht => h t (ts_cons.2 (.inr (ts_app.2 (.inr ht))))
    simp only [runOp, footOp, a, b, c, and_self]
  | mkfunc f a b =>
    have h2 : a.map (ev e2) = a.map (ev e) := evs_congr fun t ht => h t (ts_app.2 (.inl ht))
    have h3 : b.map (ev e2) = b.map (ev e) := evs_congr fun t ht => h t (ts_app.2 (.inr ht))
    simp only [runOp, footOp, h2, h3, and_self]
  | call f args =>
    have h2 : args.map (ev e2) = args.map (ev e) := evs_congr fun t ht => h t (by simpa [opds] using ht)
    simp only [runOp, footOp, h2, and_self]
  | callv f args =>
    have h2 : args.map (ev e2) = args.map (ev e) := evs_congr fun t ht => h t (ts_cons.2 (.inr ht))
    have h3 := h1 f (by simp [opds])
    simp only [runOp, footOp, h2, h3, and_self]
  | max xs =>
    have h2 : xs.map (ev e2) = xs.map (ev e) := evs_congr fun t ht => h t (by simpa [opds] using ht)
    simp only [runOp, footOp, h2, and_self]
  | min xs =>
    have h2 : xs.map (ev e2) = xs.map (ev e) := evs_congr fun t ht => h t (by simpa [opds] using ht)
    simp only [runOp, footOp, h2, and_self]
  | _ => simp only [opds, List.mem_cons, List.not_mem_nil, or_false, forall_eq_or_imp, forall_eq] at h1; simp only [runOp, footOp, h1, and_self]
end

/-! ### Places of a store -/
theorem get_eq {i : Nat} : s[i]? = if i < s.length then some (getB s i) else none := by
  unfold getB
  split
  · rename_i h; rw [List.getElem?_eq_getElem h]; rfl
  · rename_i h; rw [List.getElem?_eq_none (by omega)]
theorem get_iff {i : Nat} : s2[i]? = s[i]? ↔ getB s2 i = getB s i ∧ (i < s2.length ↔ i < s.length) := by
  constructor
  · intro h
    refine ⟨by unfold getB; rw [h], ?_⟩
    rw [get_eq, get_eq] at h
    by_cases a : i < s2.length <;> by_cases b : i < s.length <;> simp_all <;> omega
  · rintro ⟨h1, h2⟩
    rw [get_eq, get_eq, h1]
    by_cases a : i < s.length
    · rw [if_pos a, if_pos (h2.2 a)]
    · rw [if_neg a, if_neg (fun h => a (h2.1 h))]
theorem get_B {i : Nat} (h : s2[i]? = s[i]?) : getB s2 i = getB s i := (get_iff.1 h).1

/-- What a run leaves alone. -/
structure Loc (f : Foot) (s' s2 s2' : Store) : Prop where
  wr : ∀ i ∈ f.wr, s2'[i]? = s'[i]?
  keep : ∀ i, i ∉ f.wr → s2'[i]? = s2[i]?
  len : f.len = false → s2'.length = s2.length
theorem Loc.same {rd : List Nat} : Loc ⟨rd, [], false⟩ s' s s := ⟨by simp, fun _ _ => rfl, fun _ => rfl⟩
theorem Loc.setB {id : Nat} {rd : List Nat} {b : Blk} (h : s2[id]? = s[id]?) : Loc ⟨rd, [id], false⟩ (setB s id b) s2 (setB s2 id b) where
  wr i hi := by
    simp only [List.mem_singleton] at hi; subst hi
    have := (get_iff.1 h).2
    simp only [YtboekhenldifhaaGreat.setB, List.getElem?_set]
    by_cases a : i < s.length
    · simp [a, this.2 a]
    · have : ¬ i < s2.length := fun x => a (this.1 x)
      simp [a, this]
  keep i hi := by
    simp only [List.mem_singleton] at hi
    simp only [YtboekhenldifhaaGreat.setB, List.getElem?_set, if_neg (Ne.symm hi)]
  len _ := by simp [YtboekhenldifhaaGreat.setB]
/-- More may be said to be written. -/
theorem Loc.more {f : Foot} {wr : List Nat} (h : Loc ⟨f.rd, wr, f.len⟩ s' s2 s2') (hsub : ∀ i ∈ wr, i ∈ f.wr) (h' : ∀ i ∈ f.wr, i ∉ wr → s'[i]? = s[i]?) (hs : ∀ i ∈ f.wr, s2[i]? = s[i]?) : Loc f s' s2 s2' where
  wr i hi := by
    by_cases hw : i ∈ wr
    · exact h.wr i hw
    · rw [h.keep i hw, hs i hi, h' i hi hw]
  keep i hi := h.keep i fun hw => hi (hsub i hw)
  len := h.len
theorem set_get {id i : Nat} {b : Option Blk} (h : i ≠ id) : (s.set id b)[i]? = s[i]? := by simp [List.getElem?_set, Ne.symm h]

/-! ### Reading -/
theorem loadV_loc {agg : Bool} {n : Nat} {a : V} (h : ∀ i ∈ refOf a, getB s2 i = getB s i) : loadV s2 agg n a = loadV s agg n a := by
  cases a <;> first | rfl | (rename_i d; cases d <;> rfl) | (have h := h _ (List.mem_singleton.2 rfl); simp only [loadV, h])
theorem verOf_loc {id : Nat} (h : getB s2 id = getB s id) : verOf s2 id = verOf s id := by unfold verOf; rw [h]
theorem lenV_loc {a : V} (h : ∀ i ∈ refOf a, getB s2 i = getB s i) : lenV s2 a = lenV s a := by
  cases a <;> first | rfl | (rename_i d; cases d <;> rfl) | (have h := h _ (List.mem_singleton.2 rfl); simp only [lenV]; rw [verOf_loc h]) | (have h := h _ (List.mem_singleton.2 rfl); simp only [lenV, h])
theorem rowsOf_loc {esz : Nat} {a : V} (h : ∀ i ∈ refOf a, getB s2 i = getB s i) : rowsOf s2 esz a = rowsOf s esz a := by
  cases a <;> first | rfl | (rename_i d; cases d <;> rfl) | (have h := h _ (List.mem_singleton.2 rfl); simp only [rowsOf, h])
theorem sliceV_loc {esz : Nat} {a : V} {lo hi : Option V} (h : ∀ i ∈ refOf a, getB s2 i = getB s i) : sliceV s2 esz a lo hi = sliceV s esz a lo hi := by
  unfold sliceV
  rw [lenV_loc h]
  cases a <;> first | rfl | (rename_i d; cases d <;> rfl) | (have h := h _ (List.mem_singleton.2 rfl); simp only [ h])
theorem slarrV_loc {n esz : Nat} {a : V} {lo hi : Option V} (h : ∀ i ∈ refOf a, getB s2 i = getB s i) : slarrV s2 n esz a lo hi = slarrV s n esz a lo hi := by
  unfold slarrV
  cases a <;> first | rfl | (rename_i d; cases d <;> rfl) | (have h := h _ (List.mem_singleton.2 rfl); simp only [ h])
theorem iaddrSV_loc {esz : Nat} {a i : V} (h : ∀ i ∈ refOf a, getB s2 i = getB s i) : iaddrSV s2 esz a i = iaddrSV s esz a i := by
  unfold iaddrSV
  cases a <;> first | rfl | (rename_i d; cases d <;> rfl) | (have h := h _ (List.mem_singleton.2 rfl); simp only []; rw [verOf_loc h]) | (have h := h _ (List.mem_singleton.2 rfl); simp only [h])
theorem lookupV_loc {c : Cmp} {z m k : V} {ok : Bool} (h : ∀ i ∈ refOf m, getB s2 i = getB s i) : lookupV s2 c z m k ok = lookupV s c z m k ok := by
  unfold lookupV
  cases m <;> first | rfl | (rename_i d; cases d <;> rfl) | (have h := h _ (List.mem_singleton.2 rfl); simp only [ h])
section
variable {f g : V → Option (D × List Nat)} {q : Nat → Prop}
theorem cellsDW_loc (hfg : ∀ x d a, f x = some (d, a) → (∀ i ∈ a, q i) → g x = some (d, a)) : ∀ {xs : List V} {ds : List D} {a : List Nat}, cellsDW f xs = some (ds, a) → (∀ i ∈ a, q i) → cellsDW g xs = some (ds, a)
  | [], ds, a, h, _ => by simpa [cellsDW] using h
  | x :: xs, ds, a, h, hq => by
    simp only [cellsDW] at h ⊢
    split at h <;> try (cases h; done)
    rename_i d a1 ds1 a2 e1 e2
    injection h with h; injection h with h1 h2; subst h1; subst h2
    rw [hfg _ _ _ e1 fun i hi => hq i (by simp [hi]), cellsDW_loc hfg e2 fun i hi => hq i (by simp [hi])]
theorem rowsDW_loc (hfg : ∀ x d a, f x = some (d, a) → (∀ i ∈ a, q i) → g x = some (d, a)) : ∀ {xs : List (List V)} {ds : List D} {a : List Nat}, rowsDW f xs = some (ds, a) → (∀ i ∈ a, q i) → rowsDW g xs = some (ds, a)
  | [], ds, a, h, _ => by simpa [rowsDW] using h
  | x :: xs, ds, a, h, hq => by
    simp only [rowsDW] at h ⊢
    split at h <;> try (cases h; done)
    rename_i d a1 ds1 a2 e1 e2
    injection h with h; injection h with h1 h2; subst h1; subst h2
    rw [cellsDW_loc hfg e1 fun i hi => hq i (by simp [hi]), rowsDW_loc hfg e2 fun i hi => hq i (by simp [hi])]
end
theorem toD_loc : ∀ (n : Nat) (v : V) (d : D) (a : List Nat), toD s n v = some (d, a) → (∀ i ∈ a, getB s2 i = getB s i) → toD s2 n v = some (d, a)
  | 0, v, d, a, h, _ => by simp [toD] at h
  | n + 1, v, d, a, h, hq => by
    have ih := toD_loc n
    cases v with
    | ms id ver off len =>
      simp only [toD] at h ⊢
      split at h <;> try (cases h; done)
      rename_i v ro esz els hb
      split at h <;> try (cases h; done)
      rename_i hc
      simp only [Option.map_eq_some_iff] at h
      obtain ⟨⟨es, b⟩, h, he⟩ := h
      injection he with e1 e2; subst e1; subst e2
      rw [hq id (by simp), hb]
      simp only [hc, and_self, if_true]
      rw [rowsDW_loc (ih · · ·) h fun i hi => hq i (by simp [hi])]; rfl
    | asl id ver i j len =>
      simp only [toD] at h ⊢
      split at h <;> try (cases h; done)
      rename_i v ro esz els hb
      split at h <;> try (cases h; done)
      rename_i cs hcs
      split at h <;> try (cases h; done)
      rename_i hc
      simp only [Option.map_eq_some_iff] at h
      obtain ⟨⟨es, b⟩, h, he⟩ := h
      injection he with e1 e2; subst e1; subst e2
      rw [hq id (by simp), hb]
      simp only [hcs, hc, and_self, if_true]
      rw [cellsDW_loc (ih · · ·) h fun i hi => hq i (by simp [hi])]; rfl
    | ptr id ver i j =>
      simp only [toD] at h ⊢
      split at h <;> try (cases h; done)
      rename_i v ro esz els hb
      split at h <;> try (cases h; done)
      rename_i cs hcs
      split at h <;> try (cases h; done)
      rename_i hc
      simp only [Option.map_eq_some_iff] at h
      obtain ⟨⟨es, b⟩, h, he⟩ := h
      injection he with e1 e2; subst e1; subst e2
      rw [hq id (by simp), hb]
      simp only [hcs, hc, if_true]
      rw [cellsDW_loc (ih · · ·) h fun i hi => hq i (by simp [hi])]; rfl
    | agg cs =>
      simp only [toD, Option.map_eq_some_iff] at h ⊢
      obtain ⟨⟨es, b⟩, h, he⟩ := h
      injection he with e1 e2; subst e1; subst e2
      exact ⟨_, cellsDW_loc (ih · · ·) h hq, rfl⟩
    | tuple cs =>
      simp only [toD, Option.map_eq_some_iff] at h ⊢
      obtain ⟨⟨es, b⟩, h, he⟩ := h
      injection he with e1 e2; subst e1; subst e2
      exact ⟨_, cellsDW_loc (ih · · ·) h hq, rfl⟩
    | func f x y =>
      simp only [toD] at h ⊢
      split at h <;> try (cases h; done)
      rename_i p a1 r a2 e1 e2
      injection h with h; injection h with h1 h2; subst h1; subst h2
      rw [cellsDW_loc (ih · · ·) e1 fun i hi => hq i (by simp [hi]), cellsDW_loc (ih · · ·) e2 fun i hi => hq i (by simp [hi])]
    | _ => simpa [toD] using h
theorem convArgs_loc : ∀ {flags : List Bool} {args as : List V} {a : List Nat}, convArgs s flags args = some (as, a) → (∀ i ∈ a, getB s2 i = getB s i) → convArgs s2 flags args = some (as, a)
  | [], [], as, a, h, _ => by simpa [convArgs] using h
  | _ :: _, [], as, a, h, _ => by
    have e : ∀ (t : Store) (b : Bool) bs, convArgs t (b :: bs) [] = some ([], []) := fun t b bs => by cases b <;> rfl
    rw [e] at h ⊢; exact h
  | true :: fs, x :: xs, as, a, h, hq => by
    simp only [convArgs, Option.map_eq_some_iff] at h ⊢
    obtain ⟨⟨ys, b⟩, h, he⟩ := h
    injection he with e1 e2; subst e1; subst e2
    exact ⟨_, convArgs_loc h hq, rfl⟩
  | [], x :: xs, as, a, h, hq => by
    simp only [convArgs] at h ⊢
    split at h <;> try (cases h; done)
    rename_i d a1 ys a2 e1 e2
    injection h with h; injection h with h1 h2; subst h1; subst h2
    rw [toD_loc _ _ _ _ e1 fun i hi => hq i (by simp [hi]), convArgs_loc e2 fun i hi => hq i (by simp [hi])]
  | false :: fs, x :: xs, as, a, h, hq => by
    simp only [convArgs] at h ⊢
    split at h <;> try (cases h; done)
    rename_i d a1 ys a2 e1 e2
    injection h with h; injection h with h1 h2; subst h1; subst h2
    rw [toD_loc _ _ _ _ e1 fun i hi => hq i (by simp [hi]), convArgs_loc e2 fun i hi => hq i (by simp [hi])]
theorem reach_loc : ∀ (n : Nat) (todo seen : List Nat), (∀ i ∈ looked s n todo seen, getB s2 i = getB s i) → reach s2 n todo seen = reach s n todo seen ∧ looked s2 n todo seen = looked s n todo seen
  | 0, _, _, _ => ⟨rfl, rfl⟩
  | n + 1, [], _, _ => ⟨rfl, rfl⟩
  | n + 1, i :: todo, seen, h => by
    simp only [reach, looked] at h ⊢
    split
    · rename_i hc
      rw [if_pos hc] at h
      exact reach_loc n todo seen h
    · rename_i hc
      rw [if_neg hc] at h
      cases hb : getB s i with
      | none =>
        simp only [hb, List.mem_cons, forall_eq_or_imp] at h
        simp only [h.1, hb]
        obtain ⟨a, b⟩ := reach_loc n todo seen h.2
        exact ⟨a, by rw [b]⟩
      | some b =>
        simp only [hb, List.mem_cons, forall_eq_or_imp] at h
        simp only [h.1, hb]
        obtain ⟨a, b⟩ := reach_loc n _ _ h.2
        exact ⟨a, by rw [b]⟩
theorem reach_looked : ∀ (n : Nat) (todo seen : List Nat) (i : Nat), i ∈ reach s n todo seen → i ∈ seen ∨ i ∈ looked s n todo seen
  | 0, _, _, i, h => .inl (by simpa [reach] using h)
  | n + 1, [], _, i, h => .inl (by simpa [reach] using h)
  | n + 1, j :: todo, seen, i, h => by
    simp only [reach, looked] at h ⊢
    split at h
    · rename_i hc
      rw [if_pos hc]
      exact reach_looked n todo seen i h
    · rename_i hc
      rw [if_neg hc]
      cases hb : getB s j with
      | none =>
        simp only [hb] at h ⊢
        exact (reach_looked n todo seen i h).imp id fun h => by simp [h]
      | some b =>
        simp only [hb] at h ⊢
        rcases reach_looked n _ _ i h with h | h
        · simp only [List.mem_append, List.mem_singleton] at h
          exact h.imp id fun h => by simp [h]
        · exact .inr (by simp [h])

/-! ### Closing -/
def closeBlk : Blk → Blk
  | .rows v _ e els => .rows v true e els
  | b => b
theorem closeB_one {id i : Nat} : getB (closeB s [id]) i = if i = id then (getB s i).map closeBlk else getB s i := by
  unfold closeB
  simp only [List.foldl_cons, List.foldl_nil]
  split
  · rename_i v ro e els hb
    by_cases hi : i = id
    · subst hi; rw [if_pos rfl, hb]; simp only [YtboekhenldifhaaGreat.setB]; rw [getB_set_same (getB_lt hb)]; rfl
    · rw [if_neg hi]; simp only [YtboekhenldifhaaGreat.setB]; rw [getB_set_other hi]
  · rename_i hb
    by_cases hi : i = id
    · subst hi; rw [if_pos rfl]
      cases hq : getB s i with
      | none => rfl
      | some b => cases b with
        | rows v ro e els => exact absurd hq (hb v ro e els)
        | _ => rfl
    · rw [if_neg hi]
theorem closeB_get {ids : List Nat} : ∀ {s : Store} {i : Nat}, getB (closeB s ids) i = if i ∈ ids then (getB s i).map closeBlk else getB s i := by
  induction ids with
  | nil => intro s i; simp [closeB]
  | cons id ids ih =>
    intro s i
    show getB (closeB (closeB s [id]) ids) i = _
    rw [ih, closeB_one]
    by_cases h1 : i = id <;> by_cases h2 : i ∈ ids <;> simp [h1, h2]
    all_goals cases getB s id with
      | none => simp
      | some b => cases b <;> simp [closeBlk]
theorem closeB_length {ids : List Nat} : ∀ {s : Store}, (closeB s ids).length = s.length := by
  induction ids with
  | nil => intro s; rfl
  | cons id ids ih =>
    intro s
    rw [closeB_cons, ih]
    split <;> simp [YtboekhenldifhaaGreat.setB]
theorem Loc.close {ids : List Nat} (h : ∀ i ∈ ids, s2[i]? = s[i]?) : Loc ⟨ids, ids, false⟩ (closeB s ids) s2 (closeB s2 ids) where
  wr i hi := by
    have := get_iff.1 (h i hi)
    rw [get_iff, closeB_get, closeB_get, closeB_length, closeB_length, this.1]
    exact ⟨rfl, this.2⟩
  keep i hi := by
    rw [get_iff, closeB_get, if_neg hi, closeB_length]; exact ⟨rfl, .rfl⟩
  len _ := closeB_length

/-! ### Calls -/
theorem storeBack_length {ids : List Nat} {bs : Store} {m : Nat → Option Nat} : (storeBack ids bs s m).length = s.length + (bs.length - ids.length) := by
  simp [storeBack, backB_length]
def backAt (ids : List Nat) (bs : Store) (m : Nat → Option Nat) (i : Nat) (o : Option Blk) : Option Blk := match pos ids i with | some k => (getB bs k).map (renB m) | none => o
theorem getB_sb {ids : List Nat} {bs : Store} {m : Nat → Option Nat} {j : Nat} (hn : ids.Nodup) (hl : ∀ i ∈ ids, i < s.length) (h : ids.length ≤ bs.length) :
    getB (storeBack ids bs s m) j = if j < s.length then backAt ids bs m j (getB s j) else (getB bs (ids.length + (j - s.length))).map (renB m) := by
  rw [getB_storeBack hn hl h]
  unfold backAt
  cases pos ids j <;> rfl
theorem callOut_loc0 {call : CallSem} {t : Tgt} {flags : List Bool} {args : List V} {r : V} (h : callOut call t flags args s = some (r, s')) (hs : ∀ i ∈ (footCall false t flags args s s').rd, s2[i]? = s[i]?) (hl : (footCall false t flags args s s').len = true → s2.length = s.length) :
    ∃ s2', callOut call t flags args s2 = some (r, s2') ∧ footCall false t flags args s2 s2' = footCall false t flags args s s' ∧ Loc (footCall false t flags args s s') s' s2 s2' := by
  unfold callOut at h
  cases hca : convArgs s flags args with
  | none => simp [hca] at h
  | some p =>
    obtain ⟨as, fz⟩ := p
    simp only [hca] at h
    have hfoot : footCall false t flags args s s' = ⟨fz ++ looked s (budget s) (rootsT t ++ refsL as) [], (fz ++ looked s (budget s) (rootsT t ++ refsL as) []) ++ List.range' s.length (s'.length - s.length), s'.length != s.length⟩ := by
      unfold footCall; rw [hca]; rfl
    rw [hfoot] at hs hl ⊢
    generalize hlk : looked s (budget s) (rootsT t ++ refsL as) [] = lk at hs hl hfoot ⊢
    simp only at hs hl
    have hca2 : convArgs s2 flags args = some (as, fz) := convArgs_loc hca fun i hi => get_B (hs i (by simp [hi]))
    obtain ⟨hr2, hl2⟩ := reach_loc (s := s) (s2 := s2) (budget s) (rootsT t ++ refsL as) [] fun i hi => get_B (hs i (by rw [hlk] at hi; simp [hi]))
    have hin : ∀ i ∈ reach s (budget s) (rootsT t ++ refsL as) [], i ∈ lk := fun i hi => by
      rcases reach_looked _ _ _ _ hi with h | h
      · simp at h
      · rwa [hlk] at h
    obtain ⟨hnd, hblk⟩ : (reach s (budget s) (rootsT t ++ refsL as) []).Nodup ∧ ∀ i ∈ reach s (budget s) (rootsT t ++ refsL as) [], ∃ b, getB s i = some b := by
      obtain ⟨tt, e1, e2, e3⟩ := reach_ext s (budget s) (rootsT t ++ refsL as) []
      exact ⟨e3 (by simp), fun i hi => e2 i (by rw [e1] at hi; simpa using hi)⟩
    have hcall2 : ∀ s2', callOut call t flags args s2 = some (r, s2') ↔ callIds call t as fz (reach s (budget s) (rootsT t ++ refsL as) []) s2 = some (r, s2') := fun s2' => by
      unfold callOut; rw [hca2]; simp only; rw [show budget s2 = budget s from rfl, hr2]
    have hfoot2 : ∀ s2', footCall false t flags args s2 s2' = ⟨fz ++ lk, fz ++ lk ++ List.range' s2.length (s2'.length - s2.length), s2'.length != s2.length⟩ := fun s2' => by
      unfold footCall; rw [hca2]; simp only [cond_false]; rw [show budget s2 = budget s from rfl, hl2, hlk]
    generalize hids : reach s (budget s) (rootsT t ++ refsL as) [] = ids at *
    unfold callIds at h
    split at h <;> try (cases h; done)
    rename_i hfz
    split at h <;> try (cases h; done)
    rename_i t' ht'
    split at h <;> try (cases h; done)
    rename_i r0 bs hc
    split at h <;> try (cases h; done)
    rename_i hlen
    injection h with h; injection h with h1 h2
    have hidl : ∀ i ∈ ids, i < s.length := fun i hi => let ⟨b, hb⟩ := hblk i hi; getB_lt hb
    have hidl2 : ∀ i ∈ ids, i < s2.length := fun i hi => (get_iff.1 (hs i (by simp [hin i hi]))).2.2 (hidl i hi)
    have hpk : pack s2 ids (pos ids) = pack s ids (pos ids) := pack_congr fun i hi => get_B (hs i (by simp [hin i hi]))
    have hslen : s'.length = s.length + (bs.length - ids.length) := by
      rw [← h2, storeBack_length]; split <;> simp [closeB_length]
    -- either no new blocks, or the same length
    have hAB : bs.length = ids.length ∨ s2.length = s.length := by
      by_cases hx : bs.length = ids.length
      · exact .inl hx
      · exact .inr (hl (by simp; omega))
    have hback : backOf ids bs s2.length = backOf ids bs s.length := by
      rcases hAB with hx | hx
      · funext i; unfold backOf
        split
        · rfl
        · rw [if_neg (by omega), if_neg (by omega)]
      · rw [hx]
    refine ⟨storeBack ids bs (if lends ids bs r0 then s2 else closeB s2 fz) (backOf ids bs s2.length), (hcall2 _).2 ?_, ?_, ?_⟩
    · unfold callIds
      rw [if_pos hfz, ht']; simp only; rw [hpk, hc]; simp only; rw [if_pos hlen, hback, h1]
    · have hl2' : (storeBack ids bs (if lends ids bs r0 then s2 else closeB s2 fz) (backOf ids bs s2.length)).length = s2.length + (bs.length - ids.length) := by
        rw [storeBack_length]; split <;> simp [closeB_length]
      rw [hfoot2, hl2', hslen]
      rcases hAB with hx | hx
      · have : bs.length - ids.length = 0 := by omega
        simp [this]
      · rw [hx]
    · have hl2' : (storeBack ids bs (if lends ids bs r0 then s2 else closeB s2 fz) (backOf ids bs s2.length)).length = s2.length + (bs.length - ids.length) := by
        rw [storeBack_length]; split <;> simp [closeB_length]
      have hS : ∀ (s : Store) (i : Nat), getB (if lends ids bs r0 then s else closeB s fz) i = if lends ids bs r0 then getB s i else if i ∈ fz then (getB s i).map closeBlk else getB s i := fun s i => by
        split
        · rfl
        · rw [closeB_get]
      have hSl : ∀ s : Store, (if lends ids bs r0 then s else closeB s fz).length = s.length := fun s => by split <;> simp [closeB_length]
      have g1 : ∀ i, getB s' i = if i < s.length then backAt ids bs (backOf ids bs s.length) i (if lends ids bs r0 then getB s i else if i ∈ fz then (getB s i).map closeBlk else getB s i) else (getB bs (ids.length + (i - s.length))).map (renB (backOf ids bs s.length)) := fun i => by
        rw [← h2, getB_sb hnd (by rw [hSl]; exact hidl) hlen.1, hSl, hS]
      have g2 : ∀ i, getB (storeBack ids bs (if lends ids bs r0 then s2 else closeB s2 fz) (backOf ids bs s2.length)) i = if i < s2.length then backAt ids bs (backOf ids bs s.length) i (if lends ids bs r0 then getB s2 i else if i ∈ fz then (getB s2 i).map closeBlk else getB s2 i) else (getB bs (ids.length + (i - s2.length))).map (renB (backOf ids bs s.length)) := fun i => by
        rw [getB_sb hnd (by rw [hSl]; exact hidl2) hlen.1, hSl, hS, hback]
      have hnone : ∀ k, bs.length = ids.length → getB bs (ids.length + k) = none := fun k hx => by
        unfold getB; rw [List.getElem?_eq_none (by omega)]; rfl
      refine ⟨fun i hi => ?_, fun i hi => ?_, fun hx => ?_⟩
      · simp only at hi
        rw [get_iff, g1, g2, hl2', hslen]
        rw [List.mem_append] at hi
        rcases hi with hi | hi
        · have hh := get_iff.1 (hs i hi)
          rcases hAB with hx | hx
          · rw [hnone _ hx, hnone _ hx, hh.1]
            refine ⟨?_, by rw [hx]; simp only [Nat.sub_self, Nat.add_zero]; exact hh.2⟩
            by_cases a : i < s.length
            · rw [if_pos a, if_pos (hh.2.2 a)]
            · rw [if_neg a, if_neg (fun b => a (hh.2.1 b))]
          · rw [hx, hh.1]; exact ⟨rfl, .rfl⟩
        · simp only [List.mem_range'_1] at hi
          rcases hAB with hx | hx
          · omega
          · rw [hx]
            refine ⟨?_, .rfl⟩
            rw [if_neg (by omega), if_neg (by omega)]
      · simp only [List.mem_append, not_or, List.mem_range'_1] at hi
        rw [get_iff, g2, hl2']
        have hp : pos ids i = none := pos_none.2 fun h => hi.1.2 (hin i h)
        simp only [backAt, hp, if_neg hi.1.1]
        rcases hAB with hx | hx
        · rw [hnone _ hx, hx]
          refine ⟨?_, by simp⟩
          by_cases a : i < s2.length
          · rw [if_pos a]; split <;> rfl
          · rw [if_neg a]; simp only [Option.map_none]; unfold getB; rw [List.getElem?_eq_none (by omega)]; rfl
        · by_cases a : i < s2.length
          · rw [if_pos a]; exact ⟨by split <;> rfl, by omega⟩
          · rw [if_neg a]
            have : s.length + (bs.length - ids.length) ≤ i := by omega
            refine ⟨?_, by omega⟩
            have e1 : getB bs (ids.length + (i - s2.length)) = none := by unfold getB; rw [List.getElem?_eq_none (by omega)]; rfl
            rw [e1]; unfold getB; rw [List.getElem?_eq_none (by omega)]; rfl
      · simp only [bne_eq_false_iff_eq] at hx
        rw [hl2']; omega

theorem touched_spec {ids : List Nat} {i : Nat} (h : i ∉ touched s s' ids) (hi : i ∈ ids) : s'[i]? = s[i]? := by
  simp only [touched, List.mem_filter, not_and, hi, true_implies, Bool.not_eq_true', Bool.not_eq_false, Bool.and_eq_true] at h
  obtain ⟨⟨h1, h2⟩, h3⟩ := h
  rw [Nat.blt_eq] at h1
  rw [Nat.blt_eq] at h2
  exact get_iff.2 ⟨(beqB_eq h3).symm, by omega⟩
theorem callOut_loc {fine : Bool} {call : CallSem} {t : Tgt} {flags : List Bool} {args : List V} {r : V} (h : callOut call t flags args s = some (r, s')) (hs : ∀ i ∈ (footCall fine t flags args s s').rd, s2[i]? = s[i]?) (hl : (footCall fine t flags args s s').len = true → s2.length = s.length) :
    ∃ s2', callOut call t flags args s2 = some (r, s2') ∧ footCall fine t flags args s2 s2' = footCall fine t flags args s s' ∧ Loc (footCall fine t flags args s s') s' s2 s2' := by
  cases fine with
  | false => exact callOut_loc0 h hs hl
  | true =>
    have e0 : (footCall true t flags args s s').rd = (footCall false t flags args s s').rd := by unfold footCall; split <;> rfl
    have e1 : (footCall true t flags args s s').len = (footCall false t flags args s s').len := by unfold footCall; split <;> rfl
    obtain ⟨s2', h1, h2, h3⟩ := callOut_loc0 h (by rw [← e0]; exact hs) (by rw [← e1]; exact hl)
    rw [e0] at hs
    refine ⟨s2', h1, ?_⟩
    have hca2 : convArgs s2 flags args = convArgs s flags args := by
      unfold callOut at h
      cases hca : convArgs s flags args with
      | none => simp [hca] at h
      | some q =>
        have : footCall false t flags args s s' = ⟨q.2 ++ looked s (budget s) (rootsT t ++ refsL q.1) [], (q.2 ++ looked s (budget s) (rootsT t ++ refsL q.1) []) ++ List.range' s.length (s'.length - s.length), s'.length != s.length⟩ := by unfold footCall; rw [hca]; rfl
        rw [this] at hs
        exact convArgs_loc hca fun i hi => get_B (hs i (by simp [hi]))
    cases hca : convArgs s flags args with
    | none =>
      have q1 : footCall true t flags args s s' = footCall false t flags args s s' := by unfold footCall; rw [hca]
      have q2 : footCall true t flags args s2 s2' = footCall false t flags args s2 s2' := by unfold footCall; rw [hca2, hca]
      rw [q1, q2]; exact ⟨h2, h3⟩
    | some q =>
      obtain ⟨as, fz⟩ := q
      have f1 : ∀ b, footCall b t flags args s s' = ⟨fz ++ looked s (budget s) (rootsT t ++ refsL as) [], (bif b then touched s s' (fz ++ looked s (budget s) (rootsT t ++ refsL as) []) else fz ++ looked s (budget s) (rootsT t ++ refsL as) []) ++ List.range' s.length (s'.length - s.length), s'.length != s.length⟩ := fun b => by
        unfold footCall; rw [hca]
      have f2 : ∀ b, footCall b t flags args s2 s2' = ⟨fz ++ looked s2 (budget s2) (rootsT t ++ refsL as) [], (bif b then touched s2 s2' (fz ++ looked s2 (budget s2) (rootsT t ++ refsL as) []) else fz ++ looked s2 (budget s2) (rootsT t ++ refsL as) []) ++ List.range' s2.length (s2'.length - s2.length), s2'.length != s2.length⟩ := fun b => by
        unfold footCall; rw [hca2, hca]
      rw [f1, f2] at h2
      rw [f1] at hs h3
      rw [f1, f2]
      simp only [cond_false, Foot.mk.injEq] at h2
      obtain ⟨g1, g2, g3⟩ := h2
      rw [g1] at g2
      have g4 := List.append_cancel_left g2
      have hall : ∀ i ∈ fz ++ looked s (budget s) (rootsT t ++ refsL as) [], s2[i]? = s[i]? ∧ s2'[i]? = s'[i]? := fun i hi => ⟨hs i hi, h3.wr i (List.mem_append_left _ hi)⟩
      have ht : touched s2 s2' (fz ++ looked s (budget s) (rootsT t ++ refsL as) []) = touched s s' (fz ++ looked s (budget s) (rootsT t ++ refsL as) []) := by
        unfold touched
        refine List.filter_congr fun i hi => ?_
        obtain ⟨a1, a2⟩ := hall i hi
        have b1 := get_iff.1 a1
        have b2 := get_iff.1 a2
        have l1 : Nat.blt i s2.length = Nat.blt i s.length := by rw [Bool.eq_iff_iff, Nat.blt_eq, Nat.blt_eq]; exact b1.2
        have l2 : Nat.blt i s2'.length = Nat.blt i s'.length := by rw [Bool.eq_iff_iff, Nat.blt_eq, Nat.blt_eq]; exact b2.2
        rw [l1, l2, b1.1, b2.1]
      refine ⟨by simp only [cond_true, Foot.mk.injEq]; exact ⟨g1, by rw [g1, ht, g4], g3⟩, ?_⟩
      simp only [cond_true, cond_false] at h3 ⊢
      refine ⟨fun i hi => ?_, fun i hi => ?_, h3.len⟩
      · rcases List.mem_append.1 hi with hi | hi
        · exact h3.wr i (List.mem_append_left _ (List.mem_filter.1 hi).1)
        · exact h3.wr i (List.mem_append_right _ hi)
      · simp only [List.mem_append, not_or] at hi
        by_cases hm : i ∈ fz ++ looked s (budget s) (rootsT t ++ refsL as) []
        · obtain ⟨a1, a2⟩ := hall i hm
          rw [a2, touched_spec hi.1 hm, a1]
        · exact h3.keep i (by rw [List.mem_append, not_or]; exact ⟨hm, hi.2⟩)
/-! ### Any operation -/
section
variable {call : CallSem} {flags : Nat → List Bool} {base : Nat} {fine : Bool}
theorem newB_loc {id : Nat} {b : Blk} (h : newB s id b = some s') (hs : s2[id]? = s[id]?) : ∃ s2', newB s2 id b = some s2' ∧ Loc ⟨[id], [id], false⟩ s' s2 s2' := by
  unfold newB at h
  split at h <;> try (cases h; done)
  rename_i hc
  injection h with h; subst h
  have := get_iff.1 hs
  refine ⟨s2.set id (some b), ?_, .setB hs⟩
  unfold newB
  rw [if_pos ⟨this.2.2 hc.1, by rw [this.1]; exact hc.2⟩]
theorem Loc.weaken {f : Foot} {id : Nat} {rd : List Nat} {b : Blk} (h : s2[id]? = s[id]?) (hw : id ∈ f.wr) (hs : ∀ i ∈ f.wr, s2[i]? = s[i]?) (hl : f.len = false) : Loc f (YtboekhenldifhaaGreat.setB s id b) s2 (YtboekhenldifhaaGreat.setB s2 id b) := by
  have := Loc.setB (s := s) (s2 := s2) (b := b) (rd := f.rd) h
  refine Loc.more (s := s) (wr := [id]) (by rw [hl]; exact this) (by simpa using hw) (fun i _ hi => ?_) hs
  exact set_get (by simpa using hi)
theorem runOp_loc {op : VOp} {r : Res} (h : runOp call flags base op e s = some (r, s')) (hs : ∀ i ∈ (footOp fine flags base op e s s').rd, s2[i]? = s[i]?) (hl : (footOp fine flags base op e s s').len = true → s2.length = s.length) :
    ∃ s2', runOp call flags base op e s2 = some (r, s2') ∧ footOp fine flags base op e s2 s2' = footOp fine flags base op e s s' ∧ Loc (footOp fine flags base op e s s') s' s2 s2' := by
  have pure : ∀ {x : Store → Option V} {rd : List Nat}, ((x s).map fun x => (Res.val x, s)) = some (r, s') → x s2 = x s → ∃ s2', ((x s2).map fun x => (Res.val x, s2)) = some (r, s2') ∧ Loc ⟨rd, [], false⟩ s' s2 s2' := fun {x rd} h hx => by
    simp only [Option.map_eq_some_iff] at h
    obtain ⟨y, h, he⟩ := h
    injection he with e1 e2
    exact ⟨s2, by rw [hx, h, ← e1]; rfl, .same⟩
  have fresh : ∀ {slot : Nat} {b : Blk} {v : V}, ((newB s (base + slot) b).map fun s => (Res.val v, s)) = some (r, s') → s2[base + slot]? = s[base + slot]? →
      ∃ s2', ((newB s2 (base + slot) b).map fun s => (Res.val v, s)) = some (r, s2') ∧ Loc ⟨[base + slot], [base + slot], false⟩ s' s2 s2' := fun {slot b v} hh hx => by
    simp only [Option.map_eq_some_iff] at hh
    obtain ⟨y, hy, he⟩ := hh
    injection he with e1 e2
    rw [e2] at hy
    obtain ⟨s2', q1, q2⟩ := newB_loc hy hx
    exact ⟨s2', by rw [q1, ← e1]; rfl, q2⟩
  cases op with
  | fail => simp [runOp] at h
  | mv x => simp only [runOp, footOp] at h ⊢; injection h with h; injection h with e1 e2; exact ⟨s2, by rw [e1], by trivial, .same⟩
  | pick c a b =>
    simp only [runOp, footOp] at h ⊢
    split at h <;> try (cases h; done)
    injection h with h; injection h with e1 e2; exact ⟨s2, by rw [e1], by trivial, .same⟩
  | alloc slot z =>
    simp only [runOp, footOp, List.mem_singleton, forall_eq] at h hs ⊢
    split at h <;> try (cases h; done)
    rename_i hc
    obtain ⟨s2', q1, q2⟩ := fresh h hs
    exact ⟨s2', by rw [if_pos hc]; exact q1, by trivial, q2⟩
  | box slot x =>
    simp only [runOp, footOp, List.mem_singleton, forall_eq] at h hs ⊢
    split at h <;> try (cases h; done)
    rename_i hc
    obtain ⟨s2', q1, q2⟩ := fresh h hs
    exact ⟨s2', by rw [if_pos hc]; exact q1, by trivial, q2⟩
  | build z ps => obtain ⟨s2', q1, q2⟩ := pure (x := fun _ => _) h rfl; exact ⟨s2', q1, by trivial, q2⟩
  | bslice esz z n ps =>
    simp only [runOp, footOp] at h hs hl ⊢
    split at h <;> try (cases h; done)
    rename_i rs hrs
    split at h <;> try (cases h; done)
    rename_i hc
    simp only [Option.map_eq_some_iff] at h
    obtain ⟨⟨es, fz⟩, hr, he⟩ := h
    injection he with e1 e2; subst e2
    simp only [hrs, hr] at hs hl ⊢
    have hr2 : rowsD s2 depthD rs = some (es, fz) := rowsDW_loc (toD_loc depthD) hr fun i hi => get_B (hs i hi)
    refine ⟨closeB s2 fz, ?_, ?_, .close hs⟩
    · rw [if_pos hc, hr2, ← e1]; rfl
    · rw [hr2]
  | load agg n a => obtain ⟨s2', q1, q2⟩ := pure (x := fun s => loadV s agg n (ev e a)) h (loadV_loc fun i hi => get_B (hs i hi)); exact ⟨s2', q1, by trivial, q2⟩
  | store n a x =>
    simp only [runOp, footOp, Option.map_eq_some_iff] at h hs hl ⊢
    obtain ⟨y, h, he⟩ := h
    injection he with e1 e2; subst e2; subst e1
    unfold storeV at h
    split at h <;> try (cases h; done)
    rename_i id ver i j hx
    simp only [hx, refOf, List.mem_singleton, forall_eq] at hs ⊢
    split at h <;> try (cases h; done)
    rename_i v esz els hb
    split at h <;> try (cases h; done)
    rename_i hc
    split at h <;> try (cases h; done)
    rename_i cs hcs
    split at h <;> try (cases h; done)
    rename_i hj
    injection h with h; subst h
    refine ⟨_, ⟨_, ?_, rfl⟩, trivial, .setB hs⟩
    unfold storeV
    simp only [get_B hs, hb, hc, hcs, hj, and_self, if_true]
  | nilc x => obtain ⟨s2', q1, q2⟩ := pure (x := fun _ => _) h rfl; exact ⟨s2', q1, by trivial, q2⟩
  | bin op c x y => obtain ⟨s2', q1, q2⟩ := pure (x := fun _ => _) h rfl; exact ⟨s2', q1, by trivial, q2⟩
  | un op x => obtain ⟨s2', q1, q2⟩ := pure (x := fun _ => _) h rfl; exact ⟨s2', q1, by trivial, q2⟩
  | conv k x =>
    simp only [runOp, footOp] at h ⊢
    split at h <;> try (cases h; done)
    injection h with h; injection h with e1 e2; exact ⟨s2, by rw [e1], by trivial, .same⟩
  | mkslice slot esz bytes z l c =>
    simp only [runOp, footOp, List.mem_singleton, forall_eq] at h hs ⊢
    split at h <;> try (cases h; done)
    split at h <;> try (cases h; done)
    rename_i hc
    obtain ⟨s2', q1, q2⟩ := fresh h hs
    exact ⟨s2', by rw [if_pos hc]; exact q1, by trivial, q2⟩
  | mslice slot esz z n ps =>
    simp only [runOp, footOp, List.mem_singleton, forall_eq] at h hs ⊢
    split at h <;> try (cases h; done)
    split at h <;> try (cases h; done)
    rename_i hc
    obtain ⟨s2', q1, q2⟩ := fresh h hs
    exact ⟨s2', by rw [if_pos hc]; exact q1, by trivial, q2⟩
  | slice esz x lo hi =>
    simp only [runOp, footOp] at h hs ⊢
    split at h <;> try (cases h; done)
    rename_i hc
    obtain ⟨s2', q1, q2⟩ := pure (x := fun s => sliceV s esz (ev e x) (lo.map (ev e)) (hi.map (ev e))) h (sliceV_loc fun i hi => get_B (hs i hi))
    exact ⟨s2', by rw [if_pos hc]; exact q1, trivial, q2⟩
  | slarr n esz x lo hi =>
    obtain ⟨s2', q1, q2⟩ := pure (x := fun s => slarrV s n esz (ev e x) (lo.map (ev e)) (hi.map (ev e))) h (slarrV_loc fun i hi => get_B (hs i hi))
    exact ⟨s2', q1, by trivial, q2⟩
  | faddr off x => obtain ⟨s2', q1, q2⟩ := pure (x := fun _ => _) h rfl; exact ⟨s2', q1, by trivial, q2⟩
  | iaddrS esz x i =>
    obtain ⟨s2', q1, q2⟩ := pure (x := fun s => iaddrSV s esz (ev e x) (ev e i)) h (iaddrSV_loc fun i hi => get_B (hs i hi))
    exact ⟨s2', q1, by trivial, q2⟩
  | iaddrA n esz x i => obtain ⟨s2', q1, q2⟩ := pure (x := fun _ => _) h rfl; exact ⟨s2', q1, by trivial, q2⟩
  | index x i => obtain ⟨s2', q1, q2⟩ := pure (x := fun _ => _) h rfl; exact ⟨s2', q1, by trivial, q2⟩
  | indexA n x i => obtain ⟨s2', q1, q2⟩ := pure (x := fun _ => _) h rfl; exact ⟨s2', q1, by trivial, q2⟩
  | lookup c z m k ok =>
    obtain ⟨s2', q1, q2⟩ := pure (x := fun s => lookupV s c z (ev e m) (ev e k) ok) h (lookupV_loc fun i hi => get_B (hs i hi))
    exact ⟨s2', q1, by trivial, q2⟩
  | mapup c m k x =>
    simp only [runOp, footOp, Option.map_eq_some_iff] at h hs hl ⊢
    obtain ⟨y, h, he⟩ := h
    injection he with e1 e2; subst e2; subst e1
    unfold mapupV at h
    split at h <;> try (cases h; done)
    rename_i id kd hx hk
    simp only [hx, refOf, List.mem_singleton, forall_eq] at hs ⊢
    split at h <;> try (cases h; done)
    rename_i hself
    split at h <;> try (cases h; done)
    rename_i es hb
    split at h <;> try (cases h; done)
    · rename_i i v hf
      injection h with h; subst h
      refine ⟨_, ⟨_, ?_, rfl⟩, trivial, .setB hs⟩
      unfold mapupV
      simp only [get_B hs, hb, hk, hself, hf, if_true]
    · rename_i hf
      injection h with h; subst h
      refine ⟨_, ⟨_, ?_, rfl⟩, trivial, .setB hs⟩
      unfold mapupV
      simp only [get_B hs, hb, hk, hself, hf, if_true]
  | mkmap slot =>
    simp only [runOp, footOp, List.mem_singleton, forall_eq] at h hs ⊢
    obtain ⟨s2', q1, q2⟩ := fresh h hs
    exact ⟨s2', q1, trivial, q2⟩
  | ext x i =>
    simp only [runOp, footOp] at h ⊢
    split at h <;> try (cases h; done)
    · obtain ⟨s2', q1, q2⟩ := pure (x := fun _ => _) h rfl; exact ⟨s2', q1, trivial, q2⟩
    · obtain ⟨s2', q1, q2⟩ := pure (x := fun _ => _) h rfl; exact ⟨s2', q1, trivial, q2⟩
  | mkfunc f a b => simp only [runOp, footOp] at h ⊢; injection h with h; injection h with e1 e2; exact ⟨s2, by rw [e1], by trivial, .same⟩
  | call f args =>
    simp only [runOp, footOp, Option.map_eq_some_iff] at h hs hl ⊢
    obtain ⟨⟨x, y⟩, h, he⟩ := h
    injection he with e1 e2; subst e2
    obtain ⟨s2', q1, q2, q3⟩ := callOut_loc h hs hl
    exact ⟨s2', ⟨_, q1, by rw [← e1]⟩, q2, q3⟩
  | callv f args =>
    simp only [runOp, footOp] at h hs hl ⊢
    split at h <;> try (cases h; done)
    rename_i t a b ht
    simp only [ht, Option.map_eq_some_iff] at h hs hl ⊢
    obtain ⟨⟨x, y⟩, h, he⟩ := h
    injection he with e1 e2; subst e2
    obtain ⟨s2', q1, q2, q3⟩ := callOut_loc h hs hl
    exact ⟨s2', ⟨_, q1, by rw [← e1]⟩, q2, q3⟩
  | len c x =>
    simp only [runOp, footOp] at h hs ⊢
    split at h <;> try (cases h; done)
    rename_i hc
    obtain ⟨s2', q1, q2⟩ := pure (x := fun s => (lenV s (ev e x)).map fun n => intV n) h (by rw [lenV_loc fun i hi => get_B (hs i hi)])
    exact ⟨s2', by rw [if_pos hc]; exact q1, trivial, q2⟩
  | append slot esz bytes x y =>
    simp only [runOp, footOp, Option.map_eq_some_iff] at h hs hl ⊢
    obtain ⟨⟨v, y1⟩, h, he⟩ := h
    injection he with e1 e2; subst e2; subst e1
    simp only [List.mem_cons, List.mem_append, forall_eq_or_imp] at hs
    have hslot := hs.1
    have hrows : rowsOf s2 esz (ev e y) = rowsOf s esz (ev e y) := rowsOf_loc fun i hi => get_B (hs.2 i (.inr hi))
    have key : ∃ s2', appendV s2 (base + slot) esz bytes (ev e x) (ev e y) = some (v, s2') ∧ Loc ⟨(base + slot) :: (refOf (ev e x) ++ refOf (ev e y)), (base + slot) :: refOf (ev e x), false⟩ y1 s2 s2' := by
      have hall : ∀ i ∈ (base + slot) :: refOf (ev e x), s2[i]? = s[i]? := fun i hi => by
        rcases List.mem_cons.1 hi with rfl | hi
        · exact hslot
        · exact hs.2 i (.inl hi)
      have same : Loc ⟨(base + slot) :: (refOf (ev e x) ++ refOf (ev e y)), (base + slot) :: refOf (ev e x), false⟩ s s2 s2 := ⟨hall, fun _ _ => rfl, fun _ => rfl⟩
      have new : ∀ {b : Blk} {u : V} {z : Store}, ((newB s (base + slot) b).map fun s => (u, s)) = some (v, z) → ∃ s2', ((newB s2 (base + slot) b).map fun s => (u, s)) = some (v, s2') ∧ Loc ⟨(base + slot) :: (refOf (ev e x) ++ refOf (ev e y)), (base + slot) :: refOf (ev e x), false⟩ z s2 s2' := fun {b u z} h => by
        simp only [Option.map_eq_some_iff] at h
        obtain ⟨q, h, he⟩ := h
        injection he with e1 e2; subst e2
        have hlen := get_iff.1 hslot
        unfold newB at h
        split at h <;> try (cases h; done)
        rename_i hc
        injection h with h; subst h
        refine ⟨s2.set (base + slot) (some b), ?_, Loc.weaken (rd := []) hslot (by simp) hall rfl⟩
        unfold newB
        rw [if_pos ⟨hlen.2.2 hc.1, by rw [hlen.1]; exact hc.2⟩, ← e1]; rfl
      unfold appendV at h ⊢
      rw [hrows]
      split at h <;> try (cases h; done)
      rename_i ys hys
      simp only
      split at h <;> try (cases h; done)
      · split at h
        · rename_i hn; rw [if_pos hn]
          injection h with h; injection h with e1 e2; subst e2; exact ⟨s2, by rw [e1], same⟩
        · rename_i hn; rw [if_neg hn]
          split at h <;> try (cases h; done)
          rename_i hc; rw [if_pos hc]
          exact new h
      · split at h
        · rename_i hn; rw [if_pos hn]
          injection h with h; injection h with e1 e2; subst e2; exact ⟨s2, by rw [e1], same⟩
        · rename_i hn; rw [if_neg hn]
          split at h <;> try (cases h; done)
          rename_i hc; rw [if_pos hc]
          exact new h
      · split at h
        · rename_i hn; rw [if_pos hn]
          injection h with h; injection h with e1 e2; subst e2; exact ⟨s2, by rw [e1], same⟩
        · rename_i hn; rw [if_neg hn]
          simp only at h ⊢
          split at h <;> try (cases h; done)
          rename_i hc; rw [if_pos hc]
          exact new h
      · rename_i b ver off len hx
        have hb2 : s2[b]? = s[b]? := hs.2 b (.inl (by simp [hx, refOf]))
        rw [get_B hb2]
        split at h <;> try (cases h; done)
        rename_i v0 ro n els hb
        split at h <;> try (cases h; done)
        rename_i hc; rw [if_pos hc]
        split at h
        · rename_i hn; rw [if_pos hn]
          injection h with h; injection h with e1 e2; subst e2; exact ⟨s2, by rw [e1], same⟩
        · rename_i hn; rw [if_neg hn]
          split at h <;> try (cases h; done)
          rename_i hd; rw [if_pos hd]
          injection h with h; injection h with e1 e2; subst e2
          exact ⟨_, by rw [e1], Loc.weaken (rd := []) hb2 (by simp [hx, refOf]) hall rfl⟩
    obtain ⟨s2', q1, q2⟩ := key
    exact ⟨s2', ⟨_, q1, rfl⟩, trivial, q2⟩
  | max xs =>
    simp only [runOp, footOp] at h ⊢
    split at h <;> try (cases h; done)
    obtain ⟨s2', q1, q2⟩ := pure (x := fun _ => _) h rfl; exact ⟨s2', q1, trivial, q2⟩
  | min xs =>
    simp only [runOp, footOp] at h ⊢
    split at h <;> try (cases h; done)
    obtain ⟨s2', q1, q2⟩ := pure (x := fun _ => _) h rfl; exact ⟨s2', q1, trivial, q2⟩
  | clear z x =>
    simp only [runOp, footOp, Option.map_eq_some_iff] at h hs hl ⊢
    obtain ⟨y, h, he⟩ := h
    injection he with e1 e2; subst e2; subst e1
    have hall : ∀ i ∈ refOf (ev e x), s2[i]? = s[i]? := hs
    have same : Loc ⟨refOf (ev e x), refOf (ev e x), false⟩ s s2 s2 := ⟨hall, fun _ _ => rfl, fun _ => rfl⟩
    have key : ∃ s2', clearV s2 z (ev e x) = some s2' ∧ Loc ⟨refOf (ev e x), refOf (ev e x), false⟩ y s2 s2' := by
      unfold clearV at h ⊢
      split at h <;> try (cases h; done)
      · injection h with h; subst h; exact ⟨s2, rfl, same⟩
      · injection h with h; subst h; exact ⟨s2, rfl, same⟩
      · injection h with h; subst h; exact ⟨s2, rfl, same⟩
      · rename_i id ver off len hx
        have hb2 : s2[id]? = s[id]? := hs id (by simp [hx, refOf])
        simp only [get_B hb2]
        split at h <;> try (cases h; done)
        rename_i v n els hb
        split at h <;> try (cases h; done)
        rename_i hc
        injection h with h; subst h
        refine ⟨_, if_pos hc, ?_⟩
        exact Loc.weaken (rd := []) hb2 (by simp [hx, refOf]) hall rfl
    obtain ⟨s2', q1, q2⟩ := key
    exact ⟨s2', ⟨_, q1, rfl⟩, trivial, q2⟩
end
end Go.Proofs.YtboekhenldifhaaGreat
