/- A store of the small machine stands to a world of the model; what a step of either keeps. -/
import Derived.Laws.CopyRow
import Derived.Laws.CopyOwn
import Derived.Test.YtboekhenldifhaaGreatZvRel
namespace Go.Proofs.YtboekhenldifhaaGreat
open Go.RowKit

def Compiled (P : Program) (fo : Nat → Option FuncId) (N : Nat) (c : Code) (v : VCode) : Prop :=
  ∃ tr lives mu, (∀ g f, tr g = some f → fo f = some g) ∧ (compCode P tr mu c lives).1 = v ∧ dstsOk N v = true ∧ noRange v = true
def stOf : LoopState → Nat
  | .ready => 0 | .busy => 1 | .done => 2 | .exhausted => 3
def jcode : Jump → Option Code
  | .none => none
  | .exit id => some (.exit id)
  | .ret => some .ret

section
variable (P : Program) (fo : Nat → Option FuncId) (K : Known) (ρ : Places) (vv : Nat → Option (Nat × Nat)) (w : World)
inductive RBlk : Blk → Nat × Nat → Prop
  | rows (ver : Nat) (ro : Bool) (esz : Nat) (els : List (List V)) (B size : Nat) (c : Array Value) (t : TypeId) : w.heap[B]? = some (.cells c t (0, 0)) → c.size = size → els.length * esz ≤ size →
      (∀ r ∈ els, r.length = esz) → (∀ (i : Nat) r, els[i]? = some r → ∀ (j : Nat) x, r[j]? = some x → ∃ v, c[i * esz + j]? = some v ∧ RV fo K ρ vv x v ∧ v.oneCell' = true) →
      (ro = false → ∀ o, K B o = none) → RBlk (.rows ver ro esz els) (B, size)
  | map (es : List (D × V)) (B size : Nat) (ents : Array MapEntry) (clock : Nat) : w.heap[B]? = some (.map ents clock) → es.length = ents.size →
      (∀ (i : Nat) k x, es[i]? = some (k, x) → ∃ e, ents[i]? = some e ∧ RD fo K k e.key ∧ RV fo K ρ vv x e.val) → (∀ o, K B o = none) → RBlk (.map es) (B, size)
  | loop (st : Nat) (j : Jump) (env : List (Nat × V)) (params : List Nat) (assign body : VCode) (B size : Nat) (l : Loop) (N : Nat) : w.heap[B]? = some (.loop l) → stOf l.state = st → l.pending = jcode j →
      (∀ t x, (t, x) ∈ env → RV fo K ρ vv x (l.tmps.getD t undef)) → l.params.toList = params → Compiled P fo N l.assign assign → Compiled P fo N l.body body → N ≤ l.tmps.size →
      (∀ t ∈ params, t < l.tmps.size) → (∀ o, K B o = none) → RBlk (.loop st j env params assign body) (B, size)
end

structure RS (P : Program) (fo : Nat → Option FuncId) (base : Nat) (K : Known) (ρ : Places) (s : Store) (w : World) : Prop where
  known : ∀ B o v, K B o = some v → ∃ c t z, w.heap[B]? = some (.cells c t z) ∧ c[o]? = some v
  blk : ∀ id b, getB s id = some b → RBlk P fo K ρ (vo s) w b (ρ id) ∧ base ≤ (ρ id).1
  inj : ∀ i j a b, getB s i = some a → getB s j = some b → (ρ i).1 = (ρ j).1 → i = j
  base : base ≤ w.heap.size
  one : ∀ B o v, K B o = some v → v.oneCell' = true

structure Stp (base : Nat) (K : Known) (ρ : Places) (s : Store) (w : World) (K' : Known) (ρ' : Places) (s' : Store) (w' : World) : Prop where
  known : ∀ B o v, K B o = some v → K' B o = some v
  later : Later ρ ρ' (vo s) (vo s')
  below : Below base w w'
  frame : ∀ B, B < w.heap.size → (∀ id b, getB s id = some b → (ρ id).1 ≠ B) → w'.heap[B]? = w.heap[B]?
  img : ∀ id b', getB s' id = some b' → (ρ' id).1 < w.heap.size → ∃ i b, getB s i = some b ∧ (ρ i).1 = (ρ' id).1
  learn : ∀ B o v, K' B o = some v → K B o = none → B < w.heap.size → ∃ i b, getB s i = some b ∧ (ρ i).1 = B

variable {mu : Bool}
variable {P : Program} {fo : Nat → Option FuncId} {base : Nat} {K K' K'' : Known} {ρ ρ' ρ'' : Places} {s s' s'' : Store} {w w' w'' : World}

theorem Stp.refl : Stp base K ρ s w K ρ s w := ⟨fun _ _ _ h => h, .refl, .refl _ _, fun _ _ _ => rfl, fun id b h _ => ⟨id, b, h, rfl⟩, fun B o v h h' _ => by rw [h] at h'; cases h'⟩
theorem Stp.trans (h : Stp base K ρ s w K' ρ' s' w') (h' : Stp base K' ρ' s' w' K'' ρ'' s'' w'') : Stp base K ρ s w K'' ρ'' s'' w'' where
  known B o v hv := h'.known _ _ _ (h.known _ _ _ hv)
  later := h.later.trans h'.later
  below := h.below.trans h'.below
  frame B hB hn := by
    rw [h'.frame B (by have := h.below.size; omega) (fun id b hb he => by
      obtain ⟨i, b0, h0, e0⟩ := h.img id b hb (by omega)
      exact hn i b0 h0 (e0.trans he)), h.frame B hB hn]
  img id b hb hlt := by
    obtain ⟨i, b1, h1, e1⟩ := h'.img id b hb (by have := h.below.size; omega)
    obtain ⟨i2, b2, h2, e2⟩ := h.img i b1 h1 (by omega)
    exact ⟨i2, b2, h2, e2.trans e1⟩
  learn B o v hv hn hlt := by
    cases hk : K' B o with
    | some u => exact h.learn B o u hk hn hlt
    | none =>
      obtain ⟨i, b, hi, e⟩ := h'.learn B o v hv hk (by have := h.below.size; omega)
      obtain ⟨i2, b2, h2, e2⟩ := h.img i b hi (by omega)
      exact ⟨i2, b2, h2, e2.trans e⟩
theorem Stp.rv (h : Stp base K ρ s w K' ρ' s' w') {x : V} {v : Value} (hx : RV fo K ρ (vo s) x v) : RV fo K' ρ' (vo s') x v := hx.mono h.known h.later

theorem RBlk.mono {vv vv' : Nat → Option (Nat × Nat)} {b : Blk} {p : Nat × Nat} (hK : ∀ B o v, K B o = some v → K' B o = some v) (hL : Later ρ ρ' vv vv') (hh : w'.heap[p.1]? = w.heap[p.1]?)
    (hn : (∀ o, K p.1 o = none) → ∀ o, K' p.1 o = none) (h : RBlk P fo K ρ vv w b p) : RBlk P fo K' ρ' vv' w' b p := by
  cases h with
  | rows ver ro esz els B size c t h1 h2 h3 h4 h5 h6 =>
    exact .rows ver ro esz els B size c t (hh.trans h1) h2 h3 h4 (fun i r hi j x hj => let ⟨v, e1, e2, e3⟩ := h5 i r hi j x hj; ⟨v, e1, e2.mono hK hL, e3⟩) (fun hr => hn (h6 hr))
  | map es B size ents clock h1 h2 h3 h4 =>
    exact .map es B size ents clock (hh.trans h1) h2 (fun i k x hi => let ⟨e, e1, e2, e3⟩ := h3 i k x hi; ⟨e, e1, e2.mono hK, e3.mono hK hL⟩) (hn h4)
  | loop st j env params a b' B size l N h1 h2 h3 h4 h5 h6 h7 h8 h9 h10 =>
    exact .loop st j env params a b' B size l N (hh.trans h1) h2 h3 (fun t x hx => (h4 t x hx).mono hK hL) h5 h6 h7 h8 h9 (hn h10)

theorem RBlk.lt {vv : Nat → Option (Nat × Nat)} {b : Blk} {p : Nat × Nat} (h : RBlk P fo K ρ vv w b p) : p.1 < w.heap.size := by
  cases h <;> rename_i h1 _ _ _ <;> skip
  all_goals first | exact (Array.getElem?_eq_some_iff.1 ‹w.heap[_]? = some _›).1

/-! ### Stores -/
theorem getB_set_same {id : Nat} {b : Option Blk} (h : id < s.length) : getB (s.set id b) id = b := by simp [getB, h]
theorem getB_set_other {id j : Nat} {b : Option Blk} (h : j ≠ id) : getB (s.set id b) j = getB s j := by
  simp [getB, Ne.symm h]
theorem getB_lt {id : Nat} {b : Blk} (h : getB s id = some b) : id < s.length := by
  unfold getB at h
  cases hq : s[id]? with
  | none => simp [hq] at h
  | some x => exact (List.getElem?_eq_some_iff.1 hq).1
theorem getB_append_none {n id : Nat} : getB (s ++ List.replicate n none) id = getB s id := by
  unfold getB
  by_cases h : id < s.length
  · rw [List.getElem?_append_left h]
  · rw [List.getElem?_append_right (by omega), List.getElem?_eq_none (l := s) (by omega)]
    cases hq : (List.replicate n (none : Option Blk))[id - s.length]? with
    | none => rfl
    | some x => have := List.mem_of_getElem? hq; simp at this; simp [this.2]
theorem vo_append_none {n : Nat} : vo (s ++ List.replicate n none) = vo s := by
  funext id; simp [vo, getB_append_none]
theorem RS.reserve {n : Nat} (h : RS P fo base K ρ s w) : RS P fo base K ρ (s ++ List.replicate n none) w where
  known := h.known
  blk id b hb := by rw [getB_append_none] at hb; rw [vo_append_none]; exact h.blk id b hb
  inj i j a b ha hb := by rw [getB_append_none] at ha hb; exact h.inj i j a b ha hb
  base := h.base
  one := h.one
theorem Stp.reserve {n : Nat} : Stp base K ρ s w K ρ (s ++ List.replicate n none) w where
  known _ _ _ h := h
  later := by rw [vo_append_none]; exact .refl
  below := .refl _ _
  frame _ _ _ := rfl
  img id b hb _ := by rw [getB_append_none] at hb; exact ⟨id, b, hb, rfl⟩
  learn B o v h h' _ := by rw [h] at h'; cases h'

/-! ### A new block -/
theorem vo_set {id : Nat} {b : Blk} (h : id < s.length) (j : Nat) : vo (s.set id (some b)) j = if j = id then (match b with | .rows v _ e _ => some (v, e) | _ => some (0, 0)) else vo s j := by
  by_cases hj : j = id
  · subst hj; simp only [vo, getB_set_same h, if_true]
    cases b <;> rfl
  · simp only [vo, getB_set_other hj, if_neg hj]
/-- The places when a new block has been laid. -/
def placed (ρ : Places) (id B size : Nat) : Places := fun j => if j = id then (B, size) else ρ j
theorem Later.new {id : Nat} {b : Blk} {B size : Nat} (h : id < s.length) (hn : getB s id = none) : Later ρ (placed ρ id B size) (vo s) (vo (s.set id (some b))) := by
  intro j v e hv
  have hj : j ≠ id := by rintro rfl; simp [vo, hn] at hv
  exact ⟨v, by rw [vo_set h, if_neg hj]; exact hv, Nat.le_refl _, fun _ => by simp [placed, hj], fun _ => rfl⟩
theorem RS.new {id size : Nat} {b : Blk} {o : Obj} (h : RS P fo base K ρ s w) (hid : id < s.length) (hn : getB s id = none)
    (hb : RBlk P fo K (placed ρ id w.heap.size size) (vo (s.set id (some b))) (w.alloc o) b (w.heap.size, size)) :
    RS P fo base K (placed ρ id w.heap.size size) (s.set id (some b)) (w.alloc o) ∧ Stp base K ρ s w K (placed ρ id w.heap.size size) (s.set id (some b)) (w.alloc o) := by
  have hL : Later ρ (placed ρ id w.heap.size size) (vo s) (vo (s.set id (some b))) := .new hid hn
  have hold : ∀ B, B < w.heap.size → (w.alloc o).heap[B]? = w.heap[B]? := fun B hB => Below.heap_alloc _ _ _ hB
  refine ⟨⟨fun B o' v hv => ?_, fun j b' hj => ?_, fun i j a b' ha hb' he => ?_, ?_, h.one⟩, ⟨fun _ _ _ h => h, hL, (Below.refl _ _).alloc h.base o, fun B hB _ => hold B hB, fun j b' hj hlt => ?_, fun B o v h h' _ => by rw [h] at h'; cases h'⟩⟩
  · obtain ⟨c, t, z, h1, h2⟩ := h.known B o' v hv
    exact ⟨c, t, z, (hold B (Array.getElem?_eq_some_iff.1 h1).1).trans h1, h2⟩
  · by_cases hji : j = id
    · subst hji
      rw [getB_set_same hid] at hj
      injection hj with hj; subst hj
      simp only [placed, if_true]
      exact ⟨hb, h.base⟩
    · rw [getB_set_other hji] at hj
      obtain ⟨h1, h2⟩ := h.blk j b' hj
      have e : placed ρ id w.heap.size size j = ρ j := by simp [placed, hji]
      rw [e]
      exact ⟨h1.mono (fun _ _ _ h => h) hL (hold _ h1.lt) (fun h => h), h2⟩
  · have key : ∀ k bk, getB (s.set id (some b)) k = some bk → k ≠ id → (ρ k).1 < w.heap.size ∧ getB s k = some bk := fun k bk hk hne => by
      rw [getB_set_other hne] at hk; exact ⟨(h.blk k bk hk).1.lt, hk⟩
    by_cases hi : i = id <;> by_cases hj : j = id
    · rw [hi, hj]
    · have := key j b' hb' hj; simp [placed, hi, hj] at he; omega
    · have := key i a ha hi; simp [placed, hi, hj] at he; omega
    · simp [placed, hi, hj] at he
      exact h.inj i j a b' (key i a ha hi).2 (key j b' hb' hj).2 he
  · have := h.base; simp; omega
  · by_cases hji : j = id
    · simp [placed, hji] at hlt
    · rw [getB_set_other hji] at hj
      exact ⟨j, b', hj, by simp [placed, hji]⟩

/-! ### A block that is written, at its place or at a new one -/
theorem Later.bump {id v0 v1 e : Nat} {b : Blk} {p : Nat × Nat} (hid : id < s.length) (h0 : vo s id = some (v0, e)) (h1 : (match b with | .rows v _ e _ => some (v, e) | _ => some (0, 0)) = some (v1, e)) (hle : v0 ≤ v1)
    (hp : v0 = v1 → p = ρ id) (he : e = 0 → v1 = v0) : Later ρ (fun j => if j = id then p else ρ j) (vo s) (vo (s.set id (some b))) := by
  intro j v e' hv
  by_cases hj : j = id
  · subst hj
    rw [h0] at hv; injection hv with hv; injection hv with a1 a2; subst a1; subst a2
    exact ⟨v1, by rw [vo_set hid, if_pos rfl]; exact h1, hle, fun h => by simp [hp h], he⟩
  · exact ⟨v, by rw [vo_set hid, if_neg hj]; exact hv, Nat.le_refl _, fun _ => by simp [hj], fun _ => rfl⟩
/-- Block id is rewritten where it lies. -/
theorem RS.write {id v0 v1 e : Nat} {b0 b : Blk} (h : RS P fo base K ρ s w) (hb0 : getB s id = some b0) (h0 : vo s id = some (v0, e)) (h1 : (match b with | .rows v _ e _ => some (v, e) | _ => some (0, 0)) = some (v1, e)) (hle : v0 ≤ v1) (he : e = 0 → v1 = v0)
    (hfree : ∀ o, K (ρ id).1 o = none) (hbel : Below (ρ id).1 w w') (hoth : ∀ B, B ≠ (ρ id).1 → w'.heap[B]? = w.heap[B]?) (hsz : w'.heap.size = w.heap.size)
    (hb : RBlk P fo K ρ (vo (s.set id (some b))) w' b (ρ id)) :
    RS P fo base K ρ (s.set id (some b)) w' ∧ Stp base K ρ s w K ρ (s.set id (some b)) w' := by
  have hid := getB_lt hb0
  have hL : Later ρ ρ (vo s) (vo (s.set id (some b))) := by
    have := Later.bump (ρ := ρ) (p := ρ id) (b := b) hid h0 h1 hle (fun _ => rfl) he
    have e2 : (fun j => if j = id then ρ id else ρ j) = ρ := by funext j; by_cases hj : j = id <;> simp [hj]
    rwa [e2] at this
  refine ⟨⟨fun B o v hv => ?_, fun j b' hj => ?_, fun i j a b' ha hb' he => ?_, by rw [hsz]; exact h.base, h.one⟩, ⟨fun _ _ _ h => h, hL, hbel.mono (h.blk id b0 hb0).2, fun B _ hB => hoth B (Ne.symm (hB id b0 hb0)), fun j b' hj _ => ?_, fun B o v h h' _ => by rw [h] at h'; cases h'⟩⟩
  · obtain ⟨c, t, z, e1, e2⟩ := h.known B o v hv
    refine ⟨c, t, z, (hoth B ?_).trans e1, e2⟩
    rintro rfl; rw [hfree o] at hv; cases hv
  · by_cases hji : j = id
    · subst hji
      rw [getB_set_same hid] at hj
      injection hj with hj; subst hj
      exact ⟨hb, (h.blk j b0 hb0).2⟩
    · rw [getB_set_other hji] at hj
      obtain ⟨h1, h2⟩ := h.blk j b' hj
      exact ⟨h1.mono (fun _ _ _ h => h) hL (hoth _ (fun e => hji (h.inj j id b' b0 hj hb0 e))) (fun h => h), h2⟩
  · have key : ∀ k bk, getB (s.set id (some b)) k = some bk → ∃ bk', getB s k = some bk' := fun k bk hk => by
      by_cases hk' : k = id
      · subst hk'; exact ⟨b0, hb0⟩
      · rw [getB_set_other hk'] at hk; exact ⟨bk, hk⟩
    obtain ⟨_, ha'⟩ := key i a ha
    obtain ⟨_, hb''⟩ := key j b' hb'
    exact h.inj i j _ _ ha' hb'' he
  · by_cases hji : j = id
    · subst hji; exact ⟨j, b0, hb0, rfl⟩
    · rw [getB_set_other hji] at hj; exact ⟨j, b', hj, rfl⟩
/-- Block id moves to a new place. -/
theorem RS.move {id v0 v1 e size : Nat} {b0 b : Blk} {o : Obj} (h : RS P fo base K ρ s w) (hb0 : getB s id = some b0) (h0 : vo s id = some (v0, e)) (h1 : (match b with | .rows v _ e _ => some (v, e) | _ => some (0, 0)) = some (v1, e)) (hle : v0 < v1) (he : e ≠ 0)
    (hb : RBlk P fo K (placed ρ id w.heap.size size) (vo (s.set id (some b))) (w.alloc o) b (w.heap.size, size)) :
    RS P fo base K (placed ρ id w.heap.size size) (s.set id (some b)) (w.alloc o) ∧ Stp base K ρ s w K (placed ρ id w.heap.size size) (s.set id (some b)) (w.alloc o) := by
  have hid := getB_lt hb0
  have hL : Later ρ (placed ρ id w.heap.size size) (vo s) (vo (s.set id (some b))) := .bump hid h0 h1 (by omega) (by omega) (fun h => absurd h he)
  have hold : ∀ B, B < w.heap.size → (w.alloc o).heap[B]? = w.heap[B]? := fun B hB => Below.heap_alloc _ _ _ hB
  refine ⟨⟨fun B o' v hv => ?_, fun j b' hj => ?_, fun i j a b' ha hb' he => ?_, ?_, h.one⟩, ⟨fun _ _ _ h => h, hL, (Below.refl _ _).alloc h.base o, fun B hB _ => hold B hB, fun j b' hj hlt => ?_, fun B o v h h' _ => by rw [h] at h'; cases h'⟩⟩
  · obtain ⟨c, t, z, h1, h2⟩ := h.known B o' v hv
    exact ⟨c, t, z, (hold B (Array.getElem?_eq_some_iff.1 h1).1).trans h1, h2⟩
  · by_cases hji : j = id
    · subst hji
      rw [getB_set_same hid] at hj
      injection hj with hj; subst hj
      simp only [placed, if_true]
      exact ⟨hb, h.base⟩
    · rw [getB_set_other hji] at hj
      obtain ⟨h1, h2⟩ := h.blk j b' hj
      have e : placed ρ id w.heap.size size j = ρ j := by simp [placed, hji]
      rw [e]
      exact ⟨h1.mono (fun _ _ _ h => h) hL (hold _ h1.lt) (fun h => h), h2⟩
  · have key : ∀ k bk, getB (s.set id (some b)) k = some bk → k ≠ id → (ρ k).1 < w.heap.size ∧ getB s k = some bk := fun k bk hk hne => by
      rw [getB_set_other hne] at hk; exact ⟨(h.blk k bk hk).1.lt, hk⟩
    by_cases hi : i = id <;> by_cases hj : j = id
    · rw [hi, hj]
    · have := key j b' hb' hj; simp [placed, hi, hj] at he; omega
    · have := key i a ha hi; simp [placed, hi, hj] at he; omega
    · simp [placed, hi, hj] at he
      exact h.inj i j a b' (key i a ha hi).2 (key j b' hb' hj).2 he
  · have := h.base; simp; omega
  · by_cases hji : j = id
    · simp [placed, hji] at hlt
    · rw [getB_set_other hji] at hj
      exact ⟨j, b', hj, by simp [placed, hji]⟩
/-- Worlds that differ in draws alone. -/
theorem RS.world (h : RS P fo base K ρ s w) (hh : w'.heap = w.heap) : RS P fo base K ρ s w' where
  known B o v hv := by rw [hh]; exact h.known B o v hv
  blk id b hb := ⟨(h.blk id b hb).1.mono (fun _ _ _ h => h) .refl (by rw [hh]) (fun h => h), (h.blk id b hb).2⟩
  inj := h.inj
  base := by rw [hh]; exact h.base
  one := h.one
theorem Stp.world (hb : Below base w w') (hh : w'.heap = w.heap) : Stp base K ρ s w K ρ s w' where
  known _ _ _ h := h
  later := .refl
  below := hb
  frame _ _ _ := by rw [hh]
  img id b h _ := ⟨id, b, h, rfl⟩
  learn B o v h h' _ := by rw [h] at h'; cases h'
theorem RS.kcell (h : RS P fo base K ρ s w) {B o : Nat} {v : Value} (hv : K B o = some v) : w.cell? ⟨B, o, none⟩ = some v := by
  obtain ⟨c, t, z, h1, h2⟩ := h.known B o v hv
  simp [World.cell?, h1, h2]
end Go.Proofs.YtboekhenldifhaaGreat
