/- The loaded program and the machine's: row by row. -/
import Derived.Test.YtboekhenldifhaaGreatZvRun
namespace Go.Proofs.YtboekhenldifhaaGreat
open Go.RowKit
variable {P : Program} {fo : Nat → Option FuncId}
def funOf (l : List (Nat × FuncId)) : Nat → Option FuncId := fun f => l.lookup f
/-- A compiled function is the loaded one. -/
def RowOK (P : Program) (fo : Nat → Option FuncId) (fn : VFun) (g : FuncId) : Prop :=
  ∃ fnM lives tr, (∀ g f, tr g = some f → fo f = some g) ∧ P.funcs[g]? = some fnM ∧ compFn P tr fn.byRef fn.keep fn.split lives fnM = some fn ∧ (fnM.name == "runtime.NumGoroutine") = false
theorem RowOK.mk {fn : VFun} {g : FuncId} {fnM : Func} {lives : List (List Nat)} {tr : FuncId → Option Nat} {br : List Bool} {keep split : Bool} (htr : ∀ g f, tr g = some f → fo f = some g) (hg : P.funcs[g]? = some fnM) (hn : (fnM.name == "runtime.NumGoroutine") = false)
    (hc : compFn P tr br keep split lives fnM = some fn) : RowOK P fo fn g := by
  refine ⟨fnM, lives, tr, htr, hg, ?_, hn⟩
  have : fn.byRef = br ∧ fn.keep = keep ∧ fn.split = split := by
    simp only [compFn, Option.bind_eq_bind, Option.bind_eq_some_iff] at hc
    obtain ⟨body, _, hc⟩ := hc
    split at hc <;> try (cases hc; done)
    simp only [Option.bind_eq_some_iff] at hc
    obtain ⟨rs, _, hc⟩ := hc
    injection hc with hc; subst hc; exact ⟨rfl, rfl, rfl⟩
  rw [this.1, this.2.1, this.2.2]; exact hc
/-- The rows of a seat: functions of the table that the loaded program has. -/
inductive AllOK (P : Program) (fo : Nat → Option FuncId) (p : VProg) : List (Nat × FuncId) → Prop
  | nil : AllOK P fo p []
  | cons {z : Nat} {fn : VFun} {g : FuncId} {fs : List (Nat × FuncId)} : p z = some fn → RowOK P fo fn g → AllOK P fo p fs → AllOK P fo p ((z, g) :: fs)
theorem AllOK.append {p : VProg} {fs fs' : List (Nat × FuncId)} (h : AllOK P fo p fs) (h' : AllOK P fo p fs') : AllOK P fo p (fs ++ fs') := by
  induction h with
  | nil => exact h'
  | cons e r _ ih => exact .cons e r ih
theorem AllOK.fn {p : VProg} {fs : List (Nat × FuncId)} (h : AllOK P fo p fs) {f : Nat} {g : FuncId} (h2 : funOf fs f = some g) : ∃ fn, p f = some fn ∧ RowOK P fo fn g := by
  induction h with
  | nil => simp [funOf] at h2
  | cons e r _ ih =>
    simp only [funOf, List.lookup_cons] at h2 ih
    split at h2
    · rename_i heq
      injection h2 with h2; subst h2
      simp at heq; subst heq
      exact ⟨_, e, r⟩
    · exact ih h2
theorem AllOK.prog {p : VProg} {fs : List (Nat × FuncId)} (hm : P.follows .mixedOrders = true) (h : AllOK P (funOf fs) p fs) : ProgOK P (funOf fs) p where
  mixed := hm
  fns f g hf := by
    obtain ⟨fn, _, fnM, lives, tr, h1, h2, h3, h4⟩ := h.fn hf
    refine ⟨fnM, h2, h4, ?_⟩
    simp only [compFn, Option.bind_eq_bind, Option.bind_eq_some_iff] at h3
    obtain ⟨body, hb, _⟩ := h3
    simp [hb]
  comp f fn g h1 h2 := by
    obtain ⟨fn', e, fnM, lives, tr, a, b, c, d⟩ := h.fn h2
    rw [e] at h1; injection h1 with h1; subst h1
    exact ⟨fnM, lives, tr, a, b, c⟩
theorem lookup_mem {l : List (Nat × Nat)} {g f : Nat} (h : l.lookup g = some f) : (g, f) ∈ l := by
  induction l with
  | nil => simp at h
  | cons x l ih =>
    obtain ⟨a, b⟩ := x
    rw [List.lookup_cons] at h
    split at h
    · rename_i heq
      injection h with h; subst h
      simp at heq; subst heq; simp
    · simp [ih h]
/-- The renumbering of a seat. -/
def trWith (l alts : List (Nat × Nat)) (g : FuncId) : Option Nat := match alts.lookup g with | some z => some z | none => l.lookup g
theorem trWith_ok {l alts : List (Nat × Nat)} (hl : l.all (fun (k, z) => fo z == some k) = true) (ha : alts.all (fun (k, z) => fo z == some k) = true) : ∀ g f, trWith l alts g = some f → fo f = some g := by
  intro g f h
  unfold trWith at h
  split at h
  · rename_i z hz
    injection h with h; subst h
    have := List.all_eq_true.1 ha _ (lookup_mem hz)
    simpa using this
  · have := List.all_eq_true.1 hl _ (lookup_mem h)
    simpa using this
/-- Whatever the arguments mean in the model: a run that answers data ends there, and nothing that was there before is touched. -/
theorem run_calls {p : VProg} (hp : ProgOK P fo p) {n f : Nat} {g : FuncId} {args : List D} {vargs : Array Value} {w : World} {K : Known} {r : D} (hg : fo f = some g)
    (hK : ∀ B o v, K B o = some v → v.oneCell' = true ∧ ∃ c t z, w.heap[B]? = some (.cells c t z) ∧ c[o]? = some v) (ha : RDs fo K args vargs.toList) (h : callN p n (.fn f) (args.map .d) [] = some (.d r, [])) :
    Calls P g vargs w fun e w' => ∃ v, e = .returned v ∧ Below w.heap.size w w' ∧ ∃ K', RD fo K' r v := by
  have hS : RS P fo w.heap.size K (fun _ => (0, 0)) [] w :=
    { known := fun B o v hv => (hK B o v hv).2
      blk := fun id b hb => by simp [getB] at hb
      inj := fun i j a b ha => by simp [getB] at ha
      base := Nat.le_refl _
      one := fun B o v hv => (hK B o v hv).1 }
  have := callN_ok (base := w.heap.size) hp n (.fn f) K (fun _ => (0, 0)) [] w (args.map .d) vargs (.d r) [] hS (.of_d ha) h g hg
  refine (this.calls (fun k => by simp [Fence.room, Fence.wide])).mono fun e w' he => ?_
  obtain ⟨v, K', ρ', rfl, h1, h2, h3⟩ := he
  cases h3 with
  | d _ _ hd => exact ⟨v, rfl, h2.below, K', hd⟩
end Go.Proofs.YtboekhenldifhaaGreat
