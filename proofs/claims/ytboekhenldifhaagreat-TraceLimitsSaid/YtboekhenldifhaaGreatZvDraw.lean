/- Regions that draw their order: every order gives what the order of the text gives. -/
import Derived.Test.YtboekhenldifhaaGreatZvCode
import Derived.Test.YtboekhenldifhaaGreatZvLoc
set_option linter.unusedSimpArgs false
set_option linter.unusedVariables false
namespace Go.Proofs.YtboekhenldifhaaGreat
open Go.RowKit
section
variable {fine : Bool}
variable {call : CallSem} {flags : Nat → List Bool} {base : Nat} {s s' s1 s2 : Store} {e e' e1 e2 : Env}

/-! ### Two operations change places -/
theorem wants_env {g : Option (Nat × Bool)} (h : ∀ t ∈ (match g with | some (t, _) => [t] | none => []), e2 t = e t) : wants g e2 = wants g e := by
  cases g with
  | none => rfl
  | some g => obtain ⟨t, w⟩ := g; simp only [List.mem_singleton, forall_eq] at h; simp only [wants, h]
theorem runOper_loc {o : VOper} (h : runOper call flags base o e s = some (e', s')) : ∃ x, e' = put e o.dst x ∧ ∀ e2 s2, (∀ t ∈ readsT o, e2 t = e t) → (∀ i ∈ (footOper fine flags base o e s s').rd, s2[i]? = s[i]?) → ((footOper fine flags base o e s s').len = true → s2.length = s.length) →
    ∃ s2', runOper call flags base o e2 s2 = some (put e2 o.dst x, s2') ∧ footOper fine flags base o e2 s2 s2' = footOper fine flags base o e s s' ∧ Loc (footOper fine flags base o e s s') s' s2 s2' := by
  unfold runOper at h
  split at h <;> try (cases h; done)
  · rename_i hw
    injection h with h; injection h with h1 h2
    refine ⟨skipV, h1.symm, fun e2 s2 he _ _ => ?_⟩
    have hw2 : wants o.guard e2 = some false := by rw [← hw]; exact wants_env fun t ht => he t (List.mem_append_right _ ht)
    refine ⟨s2, ?_, ?_, ?_⟩
    · unfold runOper; rw [hw2]
    · unfold footOper; rw [hw2, hw]
    · unfold footOper; rw [hw]; exact .same
  · rename_i hw
    have key : ∀ r s1, runOp call flags base o.op e s = some (r, s1) → s' = s1 → ∀ e2 s2, (∀ t ∈ readsT o, e2 t = e t) → (∀ i ∈ (footOper fine flags base o e s s').rd, s2[i]? = s[i]?) → ((footOper fine flags base o e s s').len = true → s2.length = s.length) →
        wants o.guard e2 = some true ∧ ∃ s2', runOp call flags base o.op e2 s2 = some (r, s2') ∧ footOper fine flags base o e2 s2 s2' = footOper fine flags base o e s s' ∧ Loc (footOper fine flags base o e s s') s' s2 s2' := fun r s1 hr hs e2 s2 he hrd hlen => by
      subst hs
      have hw2 : wants o.guard e2 = some true := by rw [← hw]; exact wants_env fun t ht => he t (List.mem_append_right _ ht)
      have hf : ∀ s s', footOper fine flags base o e s s' = footOp fine flags base o.op e s s' := fun s s' => by unfold footOper; rw [hw]
      have hf2 : ∀ s s', footOper fine flags base o e2 s s' = footOp fine flags base o.op e s s' := fun s s' => by
        unfold footOper; rw [hw2]; exact (runOp_env (fine := fine) (call := call) (s := s) fun t ht => he t (List.mem_append_left _ ht)).2
      rw [hf] at hrd hlen ⊢
      obtain ⟨s2', q1, q2, q3⟩ := runOp_loc hr hrd hlen
      exact ⟨hw2, s2', by rw [(runOp_env (fine := fine) (call := call) (s := s2) (s' := s2) fun t ht => he t (List.mem_append_left _ ht)).1]; exact q1, by rw [hf2]; exact q2, q3⟩
    split at h <;> try (cases h; done)
    · rename_i x s1 hr
      injection h with h; injection h with h1 h2
      refine ⟨x, h1.symm, fun e2 s2 he hrd hlen => ?_⟩
      obtain ⟨hw2, s2', q1, q2, q3⟩ := key _ _ hr h2.symm e2 s2 he hrd hlen
      exact ⟨s2', by unfold runOper; rw [hw2]; simp only [q1], q2, q3⟩
    · rename_i s1 hr
      injection h with h; injection h with h1 h2
      refine ⟨skipV, h1.symm, fun e2 s2 he hrd hlen => ?_⟩
      obtain ⟨hw2, s2', q1, q2, q3⟩ := key _ _ hr h2.symm e2 s2 he hrd hlen
      exact ⟨s2', by unfold runOper; rw [hw2]; simp only [q1], q2, q3⟩
theorem put_other {dst : Option Nat} {t : Nat} {x : V} (h : ∀ d, dst = some d → t ≠ d) : put e dst x t = e t := by
  cases dst with
  | none => rfl
  | some d =>
    have h := h d rfl
    have : Nat.beq t d = false := by cases hq : Nat.beq t d with | false => rfl | true => exact absurd (Nat.eq_of_beq_eq_true hq) h
    simp only [put, upd, this, cond_false]
theorem put_comm {a b : Option Nat} {x y : V} (h : ∀ d, a = some d → b ≠ some d) : put (put e a x) b y = put (put e b y) a x := by
  cases a with
  | none => rfl
  | some d =>
    cases b with
    | none => rfl
    | some d' =>
      have h : d' ≠ d := fun hh => h d rfl (by rw [hh])
      funext t
      simp only [put, upd]
      cases h1 : Nat.beq t d <;> cases h2 : Nat.beq t d' <;> simp only [cond_false, cond_true]
      exact absurd ((Nat.eq_of_beq_eq_true h2).symm.trans (Nat.eq_of_beq_eq_true h1)) h
theorem not_contains {l : List Nat} {a : Nat} : (!l.contains a) = true ↔ a ∉ l := by simp
theorem apart_iff {a b : List Nat} : apart a b = true ↔ ∀ i ∈ a, i ∉ b := by simp [apart]
theorem apart_temps {a b : VOper} (h : tempsApart a b = true) : (∀ d, a.dst = some d → d ∉ readsT b ∧ b.dst ≠ some d) ∧ ∀ d, b.dst = some d → d ∉ readsT a := by
  simp only [tempsApart, Bool.and_eq_true] at h
  constructor
  · intro d hd
    have := h.1
    rw [hd] at this
    simp only [Bool.and_eq_true, bne_iff_ne] at this
    exact ⟨not_contains.1 this.1, this.2⟩
  · intro d hd
    have := h.2
    rw [hd] at this
    exact not_contains.1 this
theorem indep_iff {a b : Foot} : indep a b = true ↔ ¬ (a.len = true ∧ b.len = true) ∧ (∀ i ∈ a.wr, i ∉ b.rd) ∧ (∀ i ∈ a.wr, i ∉ b.wr) ∧ ∀ i ∈ a.rd, i ∉ b.wr := by
  simp only [indep, Bool.and_eq_true, apart_iff, Bool.not_eq_true', Bool.and_eq_false_iff, and_assoc]
  cases a.len <;> cases b.len <;> simp
theorem swap {y x : VOper} (ht : tempsApart y x = true) (h1 : runOper call flags base y e s = some (e1, s1)) (h2 : runOper call flags base x e1 s1 = some (e2, s2)) (hi : indep (footOper fine flags base y e s s1) (footOper fine flags base x e1 s1 s2) = true) :
    ∃ e1' s1', runOper call flags base x e s = some (e1', s1') ∧ footOper fine flags base x e s s1' = footOper fine flags base x e1 s1 s2 ∧ runOper call flags base y e1' s1' = some (e2, s2) ∧ footOper fine flags base y e1' s1' s2 = footOper fine flags base y e s s1 := by
  obtain ⟨ty, tx⟩ := apart_temps ht
  obtain ⟨il, i1, i2, i3⟩ := indep_iff.1 hi
  obtain ⟨vy, hy, ly⟩ := runOper_loc (fine := fine) h1
  obtain ⟨vx, hx, lx⟩ := runOper_loc (fine := fine) h2
  -- what y did to its own store
  obtain ⟨sy, y1, y2, y3⟩ := ly e s (fun _ _ => rfl) (fun _ _ => rfl) (fun _ => rfl)
  rw [h1] at y1; injection y1 with y1; injection y1 with _ y1; subst y1
  obtain ⟨sx, x1, x2, x3⟩ := lx e1 s1 (fun _ _ => rfl) (fun _ _ => rfl) (fun _ => rfl)
  rw [h2] at x1; injection x1 with x1; injection x1 with _ x1; subst x1
  generalize footOper fine flags base y e s s1 = fy at *
  generalize footOper fine flags base x e1 s1 s2 = fx at *
  obtain ⟨s1', p1, p2, p3⟩ := lx e s (fun t ht => by rw [hy]; exact (put_other fun d hd he => (ty d hd).1 (he ▸ ht)).symm) (fun i hi => (y3.keep i fun hw => i1 i hw hi).symm) (fun hl => by
    have : fy.len = false := by cases hq : fy.len with | false => rfl | true => exact absurd ⟨hq, hl⟩ il
    exact (y3.len this).symm)
  obtain ⟨s2', q1, q2, q3⟩ := ly (put e x.dst vx) s1' (fun t ht => put_other fun d hd he => tx d hd (he ▸ ht)) (fun i hi => p3.keep i fun hw => i3 i hi hw) (fun hl => by
    have : fx.len = false := by cases hq : fx.len with | false => rfl | true => exact absurd ⟨hl, hq⟩ il
    exact p3.len this)
  have hs : s2' = s2 := by
    refine List.ext_getElem? fun i => ?_
    by_cases a : i ∈ fy.wr
    · rw [q3.wr i a, x3.keep i (i2 i a)]
    · rw [q3.keep i a]
      by_cases b : i ∈ fx.wr
      · exact p3.wr i b
      · rw [p3.keep i b, x3.keep i b, y3.keep i a]
  subst hs
  refine ⟨_, s1', p1, p2, ?_, q2⟩
  rw [q1, hx, hy]
  congr 2
  exact put_comm fun d hd he => (ty d he).2 hd
/-- An operation is taken first. -/
theorem front : ∀ (A : List VOper) {x : VOper} {B : List VOper} {e : Env} {s : Store} {e' : Env} {s' : Store} {fA : List Foot} {fx : Foot} {fB : List Foot}, runOpsF fine call flags base (A ++ x :: B) e s = some (e', s', fA ++ fx :: fB) → fA.length = A.length →
    (∀ (k : Nat) a fa, A[k]? = some a → fA[k]? = some fa → tempsApart a x = true ∧ indep fa fx = true) → ∃ e1 s1, runOper call flags base x e s = some (e1, s1) ∧ runOpsF fine call flags base (A ++ B) e1 s1 = some (e', s', fA ++ fB) ∧ footOper fine flags base x e s s1 = fx
  | [], x, B, e, s, e', s', fA, fx, fB, h, hl, _ => by
    have : fA = [] := List.eq_nil_of_length_eq_zero hl
    subst this
    simp only [List.nil_append, runOpsF] at h ⊢
    split at h <;> try (cases h; done)
    rename_i e1 s1 h1
    simp only [Option.map_eq_some_iff] at h
    obtain ⟨⟨e2, s2, fs⟩, h, he⟩ := h
    injection he with q1 q2; injection q2 with q2 q3; injection q3 with q3 q4
    subst q1; subst q2; subst q4
    exact ⟨e1, s1, h1, h, q3⟩
  | a :: A, x, B, e, s, e', s', fA, fx, fB, h, hl, hc => by
    cases fA with
    | nil => simp at hl
    | cons fa fA =>
      simp only [List.cons_append, runOpsF] at h ⊢
      split at h <;> try (cases h; done)
      rename_i e1 s1 h1
      simp only [Option.map_eq_some_iff] at h
      obtain ⟨⟨e2, s2, fs⟩, h, he⟩ := h
      injection he with q1 q2; injection q2 with q2 q3; injection q3 with q3 q4
      subst q1; subst q2; subst q4
      obtain ⟨e3, s3, r1, r2, r3⟩ := front A h (by simpa using hl) fun k a' fa' h1 h2 => hc (k + 1) a' fa' (by simpa using h1) (by simpa using h2)
      obtain ⟨c1, c2⟩ := hc 0 a fa rfl rfl
      rw [← q3, ← r3] at c2
      obtain ⟨e4, s4, t1, t2, t3, t4⟩ := swap c1 h1 r1 c2
      refine ⟨e4, s4, t1, ?_, t2.trans r3⟩
      rw [t3]
      simp only [r2, Option.map_some, t4, q3]
theorem runOpsF_length : ∀ {l : List VOper} {e : Env} {s : Store} {e' : Env} {s' : Store} {fs : List Foot}, runOpsF fine call flags base l e s = some (e', s', fs) → fs.length = l.length
  | [], e, s, e', s', fs, h => by simp only [runOpsF] at h; injection h with h; injection h with _ h; injection h with _ h; subst h; rfl
  | o :: os, e, s, e', s', fs, h => by
    simp only [runOpsF] at h
    split at h <;> try (cases h; done)
    simp only [Option.map_eq_some_iff] at h
    obtain ⟨⟨e2, s2, fs'⟩, h, he⟩ := h
    injection he with _ he; injection he with _ he; subst he
    simp [runOpsF_length h]
/-- What the kind of an operation tells of its foot. -/
theorem foot_static {o : VOper} : (memW o.op = false → (footOper fine flags base o e s s').wr = [] ∧ (footOper fine flags base o e s s').len = false) ∧ (memW o.op = false → memR o.op = false → (footOper fine flags base o e s s').rd = []) := by
  unfold footOper
  split
  · cases o.op <;> simp [memW, memR, footOp]
  · simp
theorem runOpsF_get : ∀ {l : List VOper} {e : Env} {s : Store} {e' : Env} {s' : Store} {fs : List Foot}, runOpsF fine call flags base l e s = some (e', s', fs) → ∀ (k : Nat) f, fs[k]? = some f → ∃ o e1 s1 s2, l[k]? = some o ∧ f = footOper fine flags base o e1 s1 s2
  | [], e, s, e', s', fs, h, k, f, hf => by simp only [runOpsF] at h; injection h with h; injection h with _ h; injection h with _ h; subst h; simp at hf
  | o :: os, e, s, e', s', fs, h, k, f, hf => by
    simp only [runOpsF] at h
    split at h <;> try (cases h; done)
    simp only [Option.map_eq_some_iff] at h
    obtain ⟨⟨e2, s2, fs'⟩, h, he⟩ := h
    injection he with _ he; injection he with _ he; subst he
    cases k with
    | zero => simp only [List.getElem?_cons_zero] at hf; injection hf with hf; exact ⟨o, _, _, _, rfl, hf.symm⟩
    | succ k => simpa using runOpsF_get h k f (by simpa using hf)
theorem indep_static {a b : VOper} (h : memApart a.op b.op = true) {ea eb : Env} {sa sa' sb sb' : Store} : indep (footOper fine flags base a ea sa sa') (footOper fine flags base b eb sb sb') = true := by
  rw [indep_iff]
  simp only [memApart, Bool.or_eq_true, Bool.and_eq_true, Bool.not_eq_true'] at h
  obtain ⟨a1, a2⟩ := foot_static (fine := fine) (flags := flags) (base := base) (o := a) (e := ea) (s := sa) (s' := sa')
  obtain ⟨b1, b2⟩ := foot_static (fine := fine) (flags := flags) (base := base) (o := b) (e := eb) (s := sb) (s' := sb')
  rcases h with (⟨h1, h2⟩ | ⟨h1, h2⟩) | ⟨h1, h2⟩
  · rw [(a1 h1).1, (a1 h1).2, (b1 h2).1]; simp
  · rw [(a1 h1).1, (a1 h1).2, a2 h1 h2]; simp
  · rw [(b1 h1).1, (b1 h1).2, b2 h1 h2]; simp
end

/-! ### The orders that may come -/
def direct (o : Oper) : List Nat := (o.after.toList.filter fun e => Region.binds .any e).map (·.on)
def ancStep (acc : List Nat) (o : Oper) : List Nat := acc ++ [(direct o).foldl (fun m j => m ||| 2 ^ j ||| acc.getD j 0) 0]
theorem anc_fold {acc : List Nat} {k : Nat} : ∀ (l : List Nat) (m : Nat), (l.foldl (fun m j => m ||| 2 ^ j ||| acc.getD j 0) m).testBit k = true → m.testBit k = true ∨ k ∈ l ∨ ∃ d ∈ l, (acc.getD d 0).testBit k = true
  | [], m, h => .inl h
  | j :: l, m, h => by
    rw [List.foldl_cons] at h
    rcases anc_fold l _ h with h | h | ⟨d, h1, h2⟩
    · simp only [Nat.testBit_or, Bool.or_eq_true, Nat.testBit_two_pow, decide_eq_true_eq] at h
      rcases h with (h | h) | h
      · exact .inl h
      · exact .inr (.inl (by simp [h]))
      · exact .inr (.inr ⟨j, by simp, h⟩)
    · exact .inr (.inl (by simp [h]))
    · exact .inr (.inr ⟨d, by simp [h1], h2⟩)
theorem ancestors_eq (l : List Oper) : ancestors l = l.foldl ancStep [] := rfl
theorem anc_length : ∀ (l : List Oper) (acc : List Nat), (l.foldl ancStep acc).length = acc.length + l.length
  | [], acc => rfl
  | o :: l, acc => by rw [List.foldl_cons, anc_length]; simp [ancStep]; omega
/-- What is closed under the direct edges bears all ancestors. -/
theorem anc_closed {S : Nat → Prop} {l : List Oper} (hS : ∀ j o, l[j]? = some o → S j → ∀ k ∈ direct o, S k) : ∀ (n : Nat), n ≤ l.length → ∀ j, j < n → (∀ o, l[j]? = some o → ∀ k ∈ direct o, S k) → ∀ k, ((ancestors (l.take n)).getD j 0).testBit k = true → S k := by
  intro n
  induction n with
  | zero => intro _ j hj; omega
  | succ n ih =>
    intro hn j hj hd k hk
    have hlt : n < l.length := by omega
    have htake : l.take (n + 1) = l.take n ++ [l[n]] := by rw [List.take_add_one, List.getElem?_eq_getElem hlt]; rfl
    rw [htake, ancestors_eq, List.foldl_append, List.foldl_cons, List.foldl_nil, ← ancestors_eq] at hk
    have hlen : (ancestors (l.take n)).length = n := by rw [ancestors_eq, anc_length]; simp; omega
    unfold ancStep at hk
    by_cases hjn : j < n
    · rw [List.getD_eq_getElem?_getD, List.getElem?_append_left (by omega), ← List.getD_eq_getElem?_getD] at hk
      exact ih (by omega) j hjn hd k hk
    · have : j = n := by omega
      subst this
      rw [List.getD_eq_getElem?_getD, List.getElem?_append_right (by omega), hlen] at hk
      simp only [Nat.sub_self, List.getElem?_cons_zero, Option.getD_some] at hk
      have hget : l[j]? = some l[j] := List.getElem?_eq_getElem hlt
      rcases anc_fold _ _ hk with hk | hk | ⟨d, h1, h2⟩
      · simp at hk
      · exact hd _ hget k hk
      · have hSd := hd _ hget d h1
        by_cases hdn : d < j
        · exact ih (by omega) d hdn (fun o ho => hS d o ho hSd) k h2
        · rw [List.getD_eq_getElem?_getD, List.getElem?_eq_none (by omega)] at h2; simp at h2
theorem compOps_get {mu : Bool} {P : Program} {tr : FuncId → Option Nat} {all : Array Oper} : ∀ {os : List Oper} {slot : Nat} {k : Nat} {o : Oper}, os[k]? = some o → ∃ slot', (compOps P tr mu all slot os).1[k]? = some (compOper P tr mu all slot' o)
  | [], slot, k, o, h => by simp at h
  | x :: os, slot, k, o, h => by
    rw [compOps_cons]
    cases k with
    | zero => simp only [List.getElem?_cons_zero] at h ⊢; injection h with h; subst h; exact ⟨slot, rfl⟩
    | succ k => simpa using compOps_get (os := os) (by simpa using h)
theorem compOps_length {mu : Bool} {P : Program} {tr : FuncId → Option Nat} {all : Array Oper} : ∀ {os : List Oper} {slot : Nat}, (compOps P tr mu all slot os).1.length = os.length
  | [], slot => rfl
  | x :: os, slot => by rw [compOps_cons]; simp [compOps_length]
theorem loose_spec {feet : List Foot} : ∀ {ps : List (Nat × Nat)}, loose feet ps = true → ∀ i j, (i, j) ∈ ps → ∃ a b, feet[i]? = some a ∧ feet[j]? = some b ∧ indep a b = true
  | [], _, i, j, h => by simp at h
  | (a, b) :: r, hl, i, j, h => by
    simp only [loose, Bool.and_eq_true] at hl
    rcases List.mem_cons.1 h with h | h
    · injection h with h1 h2; subst h1; subst h2
      have := hl.1
      split at this
      · rename_i x y h1 h2; exact ⟨x, y, h1, h2, this⟩
      · cases this
    · exact loose_spec hl.2 i j h
theorem map_get {α : Type} [Inhabited α] {l : List α} {R : List Nat} {k i : Nat} (h : R[k]? = some i) : (R.map fun i => l.getD i default)[k]? = some (l.getD i default) := by simp [h]

variable {mu : Bool}
variable {P : Program} {fo : Nat → Option FuncId} {K0 : Known} {ρ0 : Places} {w0 : World} {tr : FuncId → Option Nat} {s0 : Store} {call : CallSem} {flags : Nat → List Bool} {base b0 N : Nat} {F : Fence} {ops : Array Oper} {Q : Exit → Act → World → Prop} {e' : Env} {s' : Store}
theorem any_order {fine mu : Bool} (hF : Open F) (hf : FnOK P fo) (hcall : CallOK P fo base call) (htr : ∀ g f, tr g = some f → fo f = some g) {vs : List VOper} {feet : List Foot} (hvs : ∀ k o, ops[k]? = some o → ∃ slot, vs.getD k default = compOper P tr mu ops slot o)
    (hd : ∀ o ∈ ops.toList, ∀ d, o.dst = some d → d < N) (hback : backward ops.toList = true)
    (hun : ∀ i j, i < j → j < ops.size → ((ancestors ops.toList).getD j 0).testBit i ≠ true → tempsApart (vs.getD i default) (vs.getD j default) = true ∧ indep (feet.getD i default) (feet.getD j default) = true)
    (hQ : ∀ a' w', Inv P fo base N K0 ρ0 s0 w0 e' s' a' w' → Q .normal a' w') :
    ∀ (fuel : Nat) (R : List Nat) (listed : Array Bool) (e : Env) (s : Store) (a : Act) (w : World), R.length = fuel → R.Pairwise (· < ·) → (∀ j, j ∈ R ↔ j < ops.size ∧ listed.getD j true = false) → listed.size = ops.size →
      (∀ j o, ops[j]? = some o → j ∉ R → ∀ k ∈ direct o, k < ops.size ∧ k ∉ R) → Inv P fo base N K0 ρ0 s0 w0 e s a w →
      runOpsF fine call flags b0 (R.map fun i => vs.getD i default) e s = some (e', s', R.map fun i => feet.getD i default) → wpAnyIn F 0 P .any ops Q fuel listed a w := by
  have hempty : ∀ (R : List Nat) (listed : Array Bool), R.Pairwise (· < ·) → (∀ j, j ∈ R ↔ j < ops.size ∧ listed.getD j true = false) → listed.size = ops.size → Region.ready .any ops listed = [] → R = [] := fun R listed hs hR hsz hr => by
    cases R with
    | nil => rfl
    | cons r R =>
      exfalso
      obtain ⟨h1, h2⟩ := (hR r).1 (by simp)
      have : r ∈ Region.ready .any ops listed := mem_ready.2 ⟨h2, ops[r], Array.getElem?_eq_getElem h1, fun ed hed hb => by
        have hlt : ed.on < r := by
          have := List.all_eq_true.1 hback (ops[r], r) (by rw [List.mem_iff_getElem?]; exact ⟨r, by simp [h1]⟩)
          simp only [Array.all_eq_true_iff_forall_mem, Bool.or_eq_true, decide_eq_true_eq] at this
          rcases this ed hed with h | h
          · simp [hb] at h
          · exact h
        have hn : ed.on ∉ r :: R := fun hm => by
          rcases List.mem_cons.1 hm with h | h
          · omega
          · have := (List.pairwise_cons.1 hs).1 _ h; omega
        rw [hR] at hn
        have hlt2 : ed.on < listed.size := by omega
        simp only [not_and] at hn
        have := hn (by omega)
        simp only [Array.getD_eq_getD_getElem?, Array.getElem?_eq_getElem hlt2, Option.getD_some] at this ⊢
        simpa using this⟩
      rw [hr] at this; simp at this
  intro fuel
  induction fuel with
  | zero =>
    intro R listed e s a w hlen hs hR hsz hcl hI h
    have hR0 : R = [] := List.eq_nil_of_length_eq_zero hlen
    subst hR0
    simp only [List.map_nil, runOpsF] at h
    injection h with h; injection h with h1 h2; injection h2 with h2 _; subst h1; subst h2
    refine ⟨?_, hQ _ _ hI⟩
    cases hr : Region.ready .any ops listed with
    | nil => rfl
    | cons x xs =>
      have hx : x ∈ Region.ready .any ops listed := by rw [hr]; simp
      obtain ⟨h1, o, ho, _⟩ := mem_ready.1 hx
      have := (hR x).2 ⟨(Array.getElem?_eq_some_iff.1 ho).1, h1⟩
      simp at this
  | succ fuel ih =>
    intro R listed e s a w hlen hs hR hsz hcl hI h
    refine ⟨fun hr => ?_, fun i hi => ?_⟩
    · have := hempty R listed hs hR hsz hr
      rw [this] at hlen; simp at hlen
    · obtain ⟨h1, o, ho, hedges⟩ := mem_ready.1 hi
      have hin : i < ops.size := (Array.getElem?_eq_some_iff.1 ho).1
      have hiR : i ∈ R := (hR i).2 ⟨hin, h1⟩
      obtain ⟨A, B, rfl⟩ := List.append_of_mem hiR
      have hdir : ∀ k ∈ direct o, k < ops.size ∧ k ∉ A ++ i :: B := fun k hk => by
        unfold direct at hk
        simp only [List.mem_map, List.mem_filter] at hk
        obtain ⟨ed, ⟨h2, h3⟩, rfl⟩ := hk
        have hl1 := hedges ed (by simpa using h2) h3
        have hlt : ed.on < listed.size := by
          rcases Nat.lt_or_ge ed.on listed.size with h | h
          · exact h
          · simp [Array.getD_eq_getD_getElem?, Array.getElem?_eq_none h] at hl1
        refine ⟨by omega, fun hm => ?_⟩
        have hl2 := ((hR _).1 hm).2
        simp only [Array.getD_eq_getD_getElem?, Array.getElem?_eq_getElem hlt, Option.getD_some] at hl1 hl2
        rw [hl1] at hl2; cases hl2
      have hanc : ∀ k, ((ancestors ops.toList).getD i 0).testBit k = true → k < ops.size ∧ k ∉ A ++ i :: B := by
        have := anc_closed (S := fun k => k < ops.size ∧ k ∉ A ++ i :: B) (l := ops.toList) (fun j o hj hS => hcl j o (by simpa using hj) hS.2) ops.toList.length (Nat.le_refl _) i (by simpa using hin) (fun o' ho' => by
          have : o' = o := by have := ho'; simp [ho] at this; exact this.symm
          subst this; exact hdir)
        rwa [List.take_length] at this
      rw [List.map_append, List.map_append, List.map_cons, List.map_cons] at h
      have hfr := front (A.map fun i => vs.getD i default) h (by simp) fun k va fa hk hfa => by
        simp only [List.getElem?_map, Option.map_eq_some_iff] at hk hfa
        obtain ⟨j, hj, rfl⟩ := hk
        obtain ⟨j', hj', rfl⟩ := hfa
        rw [hj] at hj'; injection hj' with hj'; subst hj'
        have hjA : j ∈ A := List.mem_of_getElem? hj
        have hlt : j < i := (List.pairwise_append.1 hs).2.2 j hjA i (by simp)
        exact hun j i hlt hin fun hc => (hanc j hc).2 (by simp [hjA])
      obtain ⟨e1, s1, r1, r2, _⟩ := hfr
      obtain ⟨slot, hslot⟩ := hvs i o ho
      rw [hslot] at r1
      refine sim_oper hF hf hcall htr ho (hd o (by simpa using Array.mem_of_getElem? ho)) hI r1 fun a' w' hI' => ?_
      refine ih (A ++ B) (listed.setIfInBounds i true) e1 s1 a' w' ?_ ?_ (fun j => ?_) (by simp [hsz]) (fun j o' hj hjR => ?_) hI' ?_
      · simp at hlen ⊢; omega
      · exact hs.sublist ((List.Sublist.refl A).append (List.sublist_cons_self i B))
      · have hnd : j ∈ A ++ B ↔ j ∈ A ++ i :: B ∧ j ≠ i := by
          have hp := List.pairwise_append.1 hs
          constructor
          · intro hj
            refine ⟨?_, ?_⟩
            · simp only [List.mem_append, List.mem_cons] at hj ⊢; exact hj.imp id .inr
            · rcases List.mem_append.1 hj with h | h
              · have := hp.2.2 j h i (by simp); omega
              · have := (List.pairwise_cons.1 hp.2.1).1 j h; omega
          · rintro ⟨hj, hne⟩
            simp only [List.mem_append, List.mem_cons] at hj ⊢
            rcases hj with h | h | h
            · exact .inl h
            · exact absurd h hne
            · exact .inr h
        rw [hnd, hR]
        constructor
        · rintro ⟨⟨q1, q2⟩, hne⟩
          exact ⟨q1, by rw [getD_set_ne true (Ne.symm hne)]; exact q2⟩
        · rintro ⟨q1, q2⟩
          by_cases hji : j = i
          · subst hji
            simp [hsz, hin] at q2
          · exact ⟨⟨q1, by rw [getD_set_ne true (Ne.symm hji)] at q2; exact q2⟩, hji⟩
      · have hsub : ∀ k, k ∉ A ++ i :: B → k ∉ A ++ B := fun k hk hm => hk (by simp only [List.mem_append, List.mem_cons] at hm ⊢; exact hm.imp id .inr)
        intro k hk
        by_cases hji : j = i
        · subst hji
          rw [ho] at hj; injection hj with hj; subst hj
          exact ⟨(hdir k hk).1, hsub k (hdir k hk).2⟩
        · have := hcl j o' hj (fun hm => by
            simp only [List.mem_append, List.mem_cons] at hm
            rcases hm with h | h | h
            · exact hjR (by simp [h])
            · exact hji h
            · exact hjR (by simp [h])) k hk
          exact ⟨this.1, hsub k this.2⟩
      · rw [List.map_append, List.map_append]; exact r2
theorem map_range_getD {α : Type} [Inhabited α] (l : List α) : (List.range l.length).map (fun i => l.getD i default) = l := by
  refine List.ext_getElem (by simp) fun i h1 h2 => ?_
  simp [List.getD_eq_getElem?_getD, List.getElem?_eq_getElem h2]
theorem Inv.world {e : Env} {s : Store} {a : Act} {w w' : World} (h : Inv P fo base N K0 ρ0 s0 w0 e s a w) (hb : Below base w w') (hh : w'.heap = w.heap) : Inv P fo base N K0 ρ0 s0 w0 e s a w' := by
  obtain ⟨K, ρ, h1, h2, h3, h4, h5⟩ := h
  have hw : Stp base K ρ s w K ρ s w' := .world hb hh
  exact ⟨K, ρ, h1.world hh, h2.trans hw, h3, h4, h5.step hw⟩
theorem draw_ok (hm : P.follows .mixedOrders = true) (hF : Open F) (hf : FnOK P fo) (hcall : CallOK P fo base call) (htr : ∀ g f, tr g = some f → fo f = some g) : DrawOK P fo base N K0 ρ0 s0 w0 call flags tr F := by
  intro mu id ops e s a w pairs e' s' Q hback htemps hpairs hd hI h hQ
  subst hpairs
  obtain ⟨fine, e1, s1, feet, hrun, hloose, h1, h2⟩ : ∃ fine e1 s1 feet, runOpsF fine call flags s.length (compOps P tr mu ops 0 ops.toList).1 e (s ++ List.replicate (compOps P tr mu ops 0 ops.toList).2 none) = some (e1, s1, feet) ∧ loose feet (pairsOf (ancestors ops.toList) (compOps P tr mu ops 0 ops.toList).1) = true ∧ e1 = e' ∧ s1 = s' := by
    simp only [runRegion] at h
    split at h <;> try (cases h; done)
    rename_i e1 s1 feet hrun
    split at h
    · rename_i hl; injection h with h; injection h with h1 h2; exact ⟨false, e1, s1, feet, hrun, hl, h1, h2⟩
    · split at h <;> try (cases h; done)
      rename_i e2 s2 feet2 hrun2
      split at h <;> try (cases h; done)
      rename_i hl
      injection h with h; injection h with h1 h2; exact ⟨true, e2, s2, feet2, hrun2, hl, h1, h2⟩
  subst h1; subst h2
  refine wpIn_region_any hm ?_
  have hl := compOps_length (mu := mu) (P := P) (tr := tr) (all := ops) (os := ops.toList) (slot := 0)
  have hfl := runOpsF_length hrun
  generalize hvs : (compOps P tr mu ops 0 ops.toList).1 = vs at *
  have hI' : Inv P fo base N K0 ρ0 s0 w0 e (s ++ List.replicate (compOps P tr mu ops 0 ops.toList).2 none) a { w with drawn := w.drawn + 1 } := hI.reserve.world (.drew (.refl _ _)) rfl
  have hfuel : (List.range ops.size).length = ops.size := by simp
  refine any_order (fine := fine) (mu := mu) (call := call) (flags := flags) (e' := e1) (s' := s1) (vs := vs) (feet := feet) (b0 := s.length) hF hf hcall htr (fun k o ho => ?_) hd hback (fun i j hij hj hna => ?_) hQ ops.size (List.range ops.size) _ _ _ a _ hfuel List.pairwise_lt_range (fun j => ?_) (by simp) (fun j o hj hn => ?_) hI' ?_
  · obtain ⟨slot, hs⟩ := compOps_get (mu := mu) (P := P) (tr := tr) (all := ops) (slot := 0) (os := ops.toList) (k := k) (o := o) (by simpa using ho)
    rw [hvs] at hs
    exact ⟨slot, by simp [List.getD_eq_getElem?_getD, hs]⟩
  · have hlen : vs.length = ops.size := by simpa using hl
    constructor
    · have := List.all_eq_true.1 htemps j (by simp [hlen, hj])
      have := List.all_eq_true.1 this i (by simp [hij])
      simp only [Bool.or_eq_true] at this
      rcases this with h | h
      · exact absurd (by simpa using h) hna
      · exact h
    · have gi : ∀ k, k < ops.size → ∃ f, feet[k]? = some f ∧ feet.getD k default = f ∧ ∃ e1 s1 s2, f = footOper fine flags s.length (vs.getD k default) e1 s1 s2 := fun k hk => by
        have hkl : k < feet.length := by omega
        have hk1 : feet[k]? = some feet[k] := List.getElem?_eq_getElem hkl
        obtain ⟨o, e1, s1, s2, q1, q2⟩ := runOpsF_get hrun k _ hk1
        exact ⟨_, hk1, by simp [List.getD_eq_getElem?_getD, hk1], e1, s1, s2, by rw [q2]; simp [List.getD_eq_getElem?_getD, q1]⟩
      obtain ⟨f1, a1, a2, x1, x2, x3, x4⟩ := gi i (by omega)
      obtain ⟨f2, b1, b2, y1, y2, y3, y4⟩ := gi j hj
      rw [a2, b2]
      by_cases hma : memApart (vs.getD i default).op (vs.getD j default).op = true
      · rw [x4, y4]; exact indep_static hma
      · have hp : (i, j) ∈ pairsOf (ancestors ops.toList) vs := by
          unfold pairsOf
          rw [List.mem_flatMap]
          refine ⟨j, by simp [hlen, hj], List.mem_map.2 ⟨i, List.mem_filter.2 ⟨by simp [hij], ?_⟩, rfl⟩⟩
          simp only [Bool.and_eq_true, Bool.not_eq_true']
          refine ⟨by simpa using hna, by simpa using hma⟩
        obtain ⟨u, v, u1, v1, hi⟩ := loose_spec hloose i j hp
        rw [a1] at u1; injection u1 with u1; subst u1
        rw [b1] at v1; injection v1 with v1; subst v1
        exact hi
  · rw [List.mem_range]
    constructor
    · intro hj; exact ⟨hj, by simp [hj]⟩
    · exact (·.1)
  · have := (Array.getElem?_eq_some_iff.1 hj).1
    simp [List.mem_range] at hn; omega
  · have e1 : (List.range ops.size).map (fun i => vs.getD i default) = vs := by
      have hlen : vs.length = ops.size := by simpa using hl
      rw [← hlen]; exact map_range_getD vs
    have e2 : (List.range ops.size).map (fun i => feet.getD i default) = feet := by
      have hlen : feet.length = ops.size := by rw [hfl]; simpa using hl
      rw [← hlen]; exact map_range_getD feet
    rw [e1, e2]; exact hrun
end Go.Proofs.YtboekhenldifhaaGreat
