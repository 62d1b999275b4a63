/- Regions in the order of the text. -/
import Derived.Test.YtboekhenldifhaaGreatZvOp
import Derived.OrdersIn
set_option linter.unusedSimpArgs false
set_option linter.unusedVariables false
namespace Go.Proofs.YtboekhenldifhaaGreat
open Go.RowKit
variable {mu : Bool}
variable {P : Program} {fo : Nat → Option FuncId} {K K0 : Known} {ρ ρ0 : Places} {w w0 : World} {tr : FuncId → Option Nat} {base : Nat} {s s' s0 : Store} {vv : Nat → Option (Nat × Nat)}

theorem RE.put {e : Env} {tmps : Array Value} {d : Nat} {x : V} {v : Value} (he : RE fo K ρ vv e tmps) (hx : RV fo K ρ vv x v) (hd : d < tmps.size) : RE fo K ρ vv (upd e d x) (tmps.setIfInBounds d v) := by
  intro t
  unfold upd
  by_cases h : t = d
  · subst h
    simp [hd, hx]
  · have : Nat.beq t d = false := by cases hq : Nat.beq t d with | false => rfl | true => exact absurd (Nat.eq_of_beq_eq_true hq) h
    simp only [this, cond_false]
    have := he t
    simpa [Array.getD_eq_getD_getElem?, Array.getElem?_setIfInBounds, Ne.symm h] using this
theorem RE.mono {K' : Known} {ρ' : Places} {vv' : Nat → Option (Nat × Nat)} {e : Env} {tmps : Array Value} (hK : ∀ B o v, K B o = some v → K' B o = some v) (hL : Later ρ ρ' vv vv') (h : RE fo K ρ vv e tmps) : RE fo K' ρ' vv' e tmps := fun t => (h t).mono hK hL
/-- The marks of the ranges over functions that the activation has come by. -/
def Marks (w0 : World) (ρ : Places) (s : Store) (w : World) (ds : List Deferred) : Prop :=
  ∃ bs : List Nat, ds = bs.map (fun b => { target := .collected b, args := #[] }) ∧ bs.Nodup ∧ ∀ b ∈ bs, w0.heap.size ≤ b ∧ w.heap[b]? = some (.deferred (some [])) ∧ ∀ id blk, getB s id = some blk → (ρ id).1 ≠ b
theorem Marks.step {ds : List Deferred} {K' : Known} {ρ' : Places} {w' : World} (h : Marks w0 ρ s w ds) (hT : Stp base K ρ s w K' ρ' s' w') : Marks w0 ρ' s' w' ds := by
  obtain ⟨bs, h1, h2, h3⟩ := h
  refine ⟨bs, h1, h2, fun b hb => ?_⟩
  obtain ⟨a1, a2, a3⟩ := h3 b hb
  have hlt := (Array.getElem?_eq_some_iff.1 a2).1
  refine ⟨a1, (hT.frame b hlt a3).trans a2, fun id blk hid he => ?_⟩
  obtain ⟨i, b0, e1, e2⟩ := hT.img id blk hid (by rw [he]; exact hlt)
  exact a3 i b0 e1 (e2.trans he)
/-- The small machine and the activation, side by side, since the activation's start. -/
def Inv (P : Program) (fo : Nat → Option FuncId) (base N : Nat) (K0 : Known) (ρ0 : Places) (s0 : Store) (w0 : World) (e : Env) (s : Store) (a : Act) (w : World) : Prop :=
  ∃ K ρ, RS P fo base K ρ s w ∧ Stp base K0 ρ0 s0 w0 K ρ s w ∧ RE fo K ρ (vo s) e a.tmps ∧ N ≤ a.tmps.size ∧ Marks w0 ρ s w a.defers
theorem put_size {a : Act} {dst : Option Nat} {v : Value} : (a.put dst v).tmps.size = a.tmps.size := by cases dst <;> simp [Act.put]
theorem put_defers {a : Act} {dst : Option Nat} {v : Value} : (a.put dst v).defers = a.defers := by cases dst <;> rfl
theorem RE.putO {e : Env} {a : Act} {dst : Option Nat} {x : V} {v : Value} {N : Nat} (he : RE fo K ρ vv e a.tmps) (hx : RV fo K ρ vv x v) (hN : N ≤ a.tmps.size) (hd : ∀ d, dst = some d → d < N) : RE fo K ρ vv (YtboekhenldifhaaGreat.put e dst x) (a.put dst v).tmps := by
  cases dst with
  | none => exact he
  | some d => exact he.put hx (Nat.lt_of_lt_of_le (hd d rfl) hN)
/-- Fences of one's own activation or of a round. -/
def Open (F : Fence) : Prop := F = Fence.wide ∨ ∃ l, F = Fence.wide.inRound l
theorem Open.fn {F : Fence} (h : Open F) (f : FuncId) : F.fn f := by rcases h with rfl | ⟨l, rfl⟩ <;> trivial
theorem Open.depth {F : Fence} (h : Open F) : ¬ F.depth.isSome = true := by rcases h with rfl | ⟨l, rfl⟩ <;> simp [Fence.wide, Fence.inRound]
theorem Open.calls {F : Fence} (h : Open F) {f : FuncId} {args : Array Value} {R : Ending → World → Prop} (hc : CallsIn Fence.wide 0 P f args w R) : CallsIn F 0 P f args w R := by
  rcases h with rfl | ⟨l, rfl⟩
  · exact hc
  · exact hc
theorem Open.rounds {F : Fence} (h : Open F) {l : Nat} {f : FuncId} {tmps : Array Value} {c d : Code} {R : Ending → World → Prop} (hc : RoundIn Fence.wide 0 P l f tmps c d w R) : RoundIn F 0 P l f tmps c d w R := by
  rcases h with rfl | ⟨l, rfl⟩
  · exact hc
  · exact hc
section
variable {F : Fence} {o : Oper} {a : Act} {next : Act → World → Prop} {Q : Exit → Act → World → Prop}
theorem ExecOK.wpIn (hF : Open F) (hd : ∀ c, o.op ≠ .defer c) {R : Value → World → Prop} (h : ExecOK P o a.eval w R) (hn : ∀ v w', R v w' → next (a.put o.dst v) w') : o.wpIn F 0 P a w next Q := by
  refine ⟨fun f _ => hF.fn f, ?_⟩
  rw [Oper.semAt_eq _ _ _ hd]
  unfold ExecOK at h
  split at h
  · rename_i he; rw [he]; exact hn _ _ h
  · rename_i he; rw [he]; exact hn _ _ h
  · rename_i he; rw [he]
    refine ⟨fun hh => absurd hh hF.depth, hF.calls (h.mono fun e w'' he => ?_)⟩
    obtain ⟨v, rfl, hr⟩ := he
    exact hn _ _ hr
  · rename_i he; rw [he]
    refine ⟨fun hh => absurd hh hF.depth, hF.rounds (h.mono fun e w'' he => ?_)⟩
    obtain ⟨v, rfl, hr⟩ := he
    exact hn _ _ hr
  · exact h.elim
end
/-- An operation and what the compiler makes of it. -/
def compOper (P : Program) (tr : FuncId → Option Nat) (mu : Bool) (all : Array Oper) (slot : Nat) (o : Oper) : VOper :=
  let g : Option (Nat × Bool) × Bool := match o.guard with
      | none => (none, true)
      | some (j, want) => match (all[j]?).bind (·.dst) with | some t => (some (t, want), true) | none => (none, false)
  { dst := o.dst, op := if g.2 then (compOp P tr mu slot o).1 else .fail, guard := g.1 }
theorem compOps_cons {all : Array Oper} {slot : Nat} {o : Oper} {os : List Oper} : compOps P tr mu all slot (o :: os) = (compOper P tr mu all slot o :: (compOps P tr mu all (compOp P tr mu slot o).2 os).1, (compOps P tr mu all (compOp P tr mu slot o).2 os).2) := rfl
section
variable {call : CallSem} {flags : Nat → List Bool} {b0 slot N : Nat} {o : Oper} {ops : Array Oper} {e e' : Env} {a : Act} {F : Fence} {Q : Exit → Act → World → Prop} {next : Act → World → Prop}
/-- A guard is answered alike. -/
theorem wants_spec {t : Nat} {b want : Bool} {j : Nat} (he : RE fo K ρ vv e a.tmps) (hj : (ops[j]?).bind (·.dst) = some t) (ho : o.guard = some (j, want)) (h : wants (some (t, want)) e = some b) : Region.wanted o (yielded ops a.tmps) = b := by
  have ht := he t
  simp only [wants] at h
  simp only [Region.wanted, ho, yielded, hj, Option.bind_some]
  generalize hq : e t = q at h ht
  split at h <;> try (cases h; done)
  · rename_i c
    injection h with h; subst h
    have hv := ht.bool_inv
    have hget : a.tmps[t]? = some (.bool c) := by
      cases hg : a.tmps[t]? with
      | none => simp [Array.getD_eq_getD_getElem?, hg, undef] at hv
      | some v => simp [Array.getD_eq_getD_getElem?, hg] at hv; rw [hv]
    rw [hget]
    cases c <;> cases want <;> rfl
  · injection h with h; subst h
    cases ht with | d _ _ ht =>
    generalize hv : a.tmps.getD t undef = v at ht
    cases ht with | tuple _ vs hvs =>
    cases hg : a.tmps[t]? with
    | none => rfl
    | some v =>
      simp [Array.getD_eq_getD_getElem?, hg] at hv
      rw [hv]; rfl
/-- One operation, guard and all. -/
theorem sim_oper (hF : Open F) (hf : FnOK P fo) (hcall : CallOK P fo base call) (htr : ∀ g f, tr g = some f → fo f = some g) {i : Nat} (hi : ops[i]? = some o) (hd : ∀ d, o.dst = some d → d < N)
    (hI : Inv P fo base N K0 ρ0 s0 w0 e s a w) (h : runOper call flags b0 (compOper P tr mu ops slot o) e s = some (e', s')) (hn : ∀ a' w', Inv P fo base N K0 ρ0 s0 w0 e' s' a' w' → next a' w') : wpOpIn F 0 P ops Q i next a w := by
  obtain ⟨K, ρ, hS, hT, hE, hN, hds⟩ := hI
  unfold wpOpIn
  simp only [hi]
  have hwant : ∀ b, wants (compOper P tr mu ops slot o).guard e = some b → (compOper P tr mu ops slot o).op ≠ .fail ∨ b = false → Region.wanted o (yielded ops a.tmps) = b := fun b hb hfail => by
    unfold compOper at hb hfail
    cases hg : o.guard with
    | none => simp only [hg, wants] at hb; injection hb with hb; subst hb; simp [Region.wanted, hg]
    | some g =>
      obtain ⟨j, want⟩ := g
      cases hq : (ops[j]?).bind (·.dst) with
      | none =>
        simp only [hg, hq, wants] at hb hfail
        injection hb with hb; subst hb
        simp at hfail
      | some t => simp only [hg, hq] at hb; exact wants_spec hE hq hg hb
  unfold runOper at h
  split at h <;> try (cases h; done)
  · rename_i hw
    injection h with h; injection h with h1 h2; subst h1; subst h2
    rw [if_neg (by rw [hwant false hw (.inr rfl)]; simp)]
    exact ⟨fun f _ => hF.fn f, hn _ _ ⟨K, ρ, hS, hT, hE.putO rv_skip hN hd, by rw [put_size]; exact hN, by rw [put_defers]; exact hds⟩⟩
  · rename_i hw
    have hne : (compOper P tr mu ops slot o).op ≠ .fail := fun hf => by rw [hf] at h; simp [runOp] at h
    have hop : (compOper P tr mu ops slot o).op = (compOp P tr mu slot o).1 := by
      unfold compOper at hne ⊢
      cases hg : o.guard with
      | none => simp [hg]
      | some g =>
        cases hq : (ops[g.1]?).bind (·.dst) with
        | none => simp [hg, hq] at hne
        | some t => simp [hg, hq]
    rw [if_pos (hwant true hw (.inl hne))]
    have hnd : ∀ c, o.op ≠ .defer c := fun c hc => by rw [hop] at hne; simp [compOp, hc] at hne
    rw [hop] at h
    have key : ∀ res s1, runOp call flags b0 (compOp P tr mu slot o).1 e s = some (res, s1) → e' = put e o.dst (resV res) → s' = s1 → o.wpIn F 0 P a w next Q := fun res s1 hr h1 h2 => by
      subst h1; subst h2
      refine (sim_op hf hcall htr hS hE hr).wpIn hF hnd fun v w' hv => ?_
      obtain ⟨K', ρ', q1, q2, q3⟩ := hv
      exact hn _ _ ⟨K', ρ', q1, hT.trans q2, (hE.mono q2.known q2.later).putO q3 hN hd, by rw [put_size]; exact hN, by rw [put_defers]; exact hds.step q2⟩
    split at h <;> try (cases h; done)
    · rename_i x s1 hr
      injection h with h; injection h with h1 h2
      exact key _ _ hr h1.symm h2.symm
    · rename_i s1 hr
      injection h with h; injection h with h1 h2
      exact key _ _ hr h1.symm h2.symm
/-- A region in the order of the text. -/
theorem sim_ops (hF : Open F) (hf : FnOK P fo) (hcall : CallOK P fo base call) (htr : ∀ g f, tr g = some f → fo f = some g) : ∀ (os : List Oper) (i : Nat) {slot : Nat} {e : Env} {s : Store} {a : Act} {w : World}, (∀ k, os[k]? = ops[i + k]?) →
    (∀ o ∈ os, ∀ d, o.dst = some d → d < N) → Inv P fo base N K0 ρ0 s0 w0 e s a w → runOps call flags b0 (compOps P tr mu ops slot os).1 e s = some (e', s') → (∀ a' w', Inv P fo base N K0 ρ0 s0 w0 e' s' a' w' → Q .normal a' w') →
    wpOpsIn F 0 P ops Q (List.range' i os.length) a w
  | [], i, slot, e, s, a, w, hk, hd, hI, h, hQ => by
    simp only [compOps, runOps] at h
    injection h with h; injection h with h1 h2; subst h1; subst h2
    exact hQ _ _ hI
  | o :: os, i, slot, e, s, a, w, hk, hd, hI, h, hQ => by
    rw [compOps_cons] at h
    simp only [runOps] at h
    split at h <;> try (cases h; done)
    rename_i e1 s1 h1
    rw [List.length_cons, List.range'_succ, wpOpsIn_cons]
    have hi : ops[i]? = some o := by have := hk 0; simpa using this.symm
    refine sim_oper hF hf hcall htr hi (hd o (by simp)) hI h1 fun a' w' hI' => ?_
    exact sim_ops hF hf hcall htr os (i + 1) (fun k => by have := hk (k + 1); simp at this; rw [this]; congr 1; omega) (fun o ho => hd o (by simp [ho])) hI' h hQ
end
end Go.Proofs.YtboekhenldifhaaGreat
