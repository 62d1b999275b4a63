/- Code: regions, sequences, loops. -/
import Derived.Test.YtboekhenldifhaaGreatZvRegion
set_option linter.unusedSimpArgs false
set_option linter.unusedVariables false
namespace Go.Proofs.YtboekhenldifhaaGreat
open Go.RowKit
section
variable {F : Fence} {n : Nat} {P : Program} {c : Code} {Q : Exit → Act → World → Prop} {a : Act} {w : World}
/-- A loop, at the head of its body. -/
def LoopAt (F : Fence) (n : Nat) (P : Program) (c : Code) (Q : Exit → Act → World → Prop) (a : Act) (w : World) : Prop :=
  ∀ (b : Frame) (k : List Item) (cs : List Frame), b.roundOf = F.round → F.fn b.fn → F.room (cs.length + 1 + n) →
    ∃ e a' w', Q e a' w' ∧ ArrivesIn (Machine.fenced P F) P (lone (b.atR a (.code c :: .inLoop c :: k)) cs w) b k cs e a' w'
theorem LoopAt.wpIn (h : LoopAt F n P c Q a w) : (Code.loop c).wpIn F n P Q a w := by
  intro b k cs hro hb hr
  obtain ⟨e, a', w', hq, harr⟩ := h b k cs hro hb hr
  exact ⟨e, a', w', hq, .of_steps (.one (fenced_calm hb hr rfl) stepR_loop) harr⟩
theorem LoopAt.step (h : c.wpIn F n P (Exit.then (LoopAt F n P c Q) Q) a w) : LoopAt F n P c Q a w := by
  intro b k cs hro hb hr
  obtain ⟨e, a₁, w₁, hq, harr⟩ := h b (.inLoop c :: k) cs hro hb hr
  cases e with
  | normal =>
    obtain ⟨e₂, a₂, w₂, hq₂, harr₂⟩ := hq b k cs hro hb hr
    exact ⟨e₂, a₂, w₂, hq₂, .of_steps (StepsIn.trans harr (.one (fenced_calm hb hr rfl) stepR_inLoop)) harr₂⟩
  | exit id => exact ⟨_, a₁, w₁, hq, .pass (x := .inLoop c) rfl (fun _ _ => .inl (by simp)) harr⟩
  | goto l => exact ⟨_, a₁, w₁, hq, .pass (x := .inLoop c) rfl (fun _ _ => .inl (by simp)) harr⟩
  | ret => exact ⟨_, a₁, w₁, hq, .pass (x := .inLoop c) rfl (fun _ _ => .inl (by simp)) harr⟩
  | panic ch => exact ⟨_, a₁, w₁, hq, .pass (x := .inLoop c) rfl (fun _ _ => .inl (by simp)) harr⟩
  | outgrown => exact ⟨_, a₁, w₁, hq, .pass (x := .inLoop c) rfl (fun _ _ => .inl (by simp)) harr⟩
theorem stepR_scope {b : Frame} {k : List Item} {cs : List Frame} : step P (lone (b.atR a (.code (.scope c) :: k)) cs w) = .next (lone (b.atR a (.code c :: .inScope c :: k)) cs w) :=
  step_lone_go (by simp [stepG, stepG.exec, Frame.atR])
theorem stepR_inScope {b : Frame} {k : List Item} {cs : List Frame} : step P (lone (b.atR a (.inScope c :: k)) cs w) = .next (lone (b.atR a k) cs w) :=
  step_lone_go (by simp [stepG, stepG.exec, Frame.atR])
theorem wpIn_scope (h : c.wpIn F n P (fun e a w => match e with | .goto _ => False | e => Q e a w) a w) : (Code.scope c).wpIn F n P Q a w := by
  intro b k cs hro hb hr
  have h0 : (lone (b.atR a (.code (.scope c) :: k)) cs w).fenced P F := fenced_calm hb hr rfl
  obtain ⟨e, a₁, w₁, hq, harr⟩ := h b (.inScope c :: k) cs hro hb hr
  cases e with
  | normal => exact ⟨.normal, a₁, w₁, hq, .head h0 stepR_scope (StepsIn.trans harr (.one (fenced_calm hb hr rfl) stepR_inScope))⟩
  | exit id =>
    have hx : exitTo id (.inScope c :: k) = exitTo id k := by simp [exitTo]
    exact ⟨_, a₁, w₁, hq, fun k' hk => .head h0 stepR_scope (harr.1 k' (by rw [hx]; exact hk)),
      fun hr' hk => let ⟨k₁, h1, h2⟩ := harr.2 hr' (by rw [hx]; exact hk); ⟨k₁, h1, .head h0 stepR_scope h2⟩⟩
  | goto l => exact hq.elim
  | ret => exact ⟨_, a₁, w₁, hq, .of_steps (.one h0 stepR_scope) harr⟩
  | panic ch => exact ⟨_, a₁, w₁, hq, .of_steps (.one h0 stepR_scope) harr⟩
  | outgrown => exact ⟨_, a₁, w₁, hq, .of_steps (.one h0 stepR_scope) harr⟩
end

variable {mu : Bool}
variable {P : Program} {fo : Nat → Option FuncId} {K K0 : Known} {ρ ρ0 : Places} {w w0 : World} {tr : FuncId → Option Nat} {base N : Nat} {s s' s0 : Store}
def exitOf : Out → Exit
  | .normal => .normal
  | .exit id => .exit id
  | .ret => .ret
theorem Inv.reserve {n : Nat} {e : Env} {a : Act} (h : Inv P fo base N K0 ρ0 s0 w0 e s a w) : Inv P fo base N K0 ρ0 s0 w0 e (s ++ List.replicate n none) a w := by
  obtain ⟨K, ρ, h1, h2, h3, h4, h5⟩ := h
  refine ⟨K, ρ, h1.reserve, h2.trans .reserve, ?_, h4, h5.step (K := K) (K' := K) (base := base) .reserve⟩
  rw [vo_append_none]; exact h3
theorem lives_env {e : Env} {m : Nat → Option Nat} : ∀ (live : List Nat) (t : Nat), envOf (renE m (lives e live)) t = if t ∈ live then ren m (e t) else .poison
  | [], t => rfl
  | x :: live, t => by
    have ih := lives_env (e := e) (m := m) live t
    simp only [lives, renE, List.map_cons, envOf, List.foldr_cons] at ih ⊢
    unfold upd
    by_cases h : t = x
    · subst h; simp
    · have : Nat.beq t x = false := by cases hq : Nat.beq t x with | false => rfl | true => exact absurd (Nat.eq_of_beq_eq_true hq) h
      simp only [this, cond_false, List.mem_cons, h, false_or]
      exact ih
/-- The garbage goes. -/
theorem Inv.sweep {live : List Nat} {e : Env} {a : Act} (h : Inv P fo base N K0 ρ0 s0 w0 e s a w) :
    Inv P fo base N K0 ρ0 s0 w0 (YtboekhenldifhaaGreat.sweep s0.length live e s).1 (YtboekhenldifhaaGreat.sweep s0.length live e s).2 a w := by
  obtain ⟨K, ρ, h1, h2, h3, h4, h5⟩ := h
  obtain ⟨g1, g2⟩ := gcIds_spec s s0.length (refsE (lives e live))
  refine ⟨K, placesOf ρ (gcIds s s0.length (refsE (lives e live))), h1.pack g1, h2.pack g2, fun t => ?_, h4, ?_⟩
  · simp only [YtboekhenldifhaaGreat.sweep, lives_env]
    split
    · exact (h3 t).ren renOk_pack
    · exact .poison _
  · obtain ⟨bs, b1, b2, b3⟩ := h5
    refine ⟨bs, b1, b2, fun b hb => ⟨(b3 b hb).1, (b3 b hb).2.1, fun id blk hid => ?_⟩⟩
    simp only [YtboekhenldifhaaGreat.sweep, getB_pack] at hid
    cases hi : (gcIds s s0.length (refsE (lives e live)))[id]? with
    | none => simp [hi] at hid
    | some i =>
      simp only [hi, Option.bind_some, Option.map_eq_some_iff] at hid
      obtain ⟨b0, h0, _⟩ := hid
      have e : placesOf ρ (gcIds s s0.length (refsE (lives e live))) id = ρ i := by simp [placesOf, List.getD, hi]
      rw [e]; exact (b3 b hb).2.2 i b0 h0

section
variable {call : CallSem} {flags : Nat → List Bool} {F : Fence}
theorem exitOf_block {Q : Exit → Act → World → Prop} {id : Nat} {out : Out} {a : Act} {w : World} (h : Q (exitOf (if out = .exit id then .normal else out)) a w) : Exit.inBlock id Q (exitOf out) a w := by
  cases out with
  | normal => simpa [exitOf, Exit.inBlock] using h
  | ret => simpa [exitOf, Exit.inBlock] using h
  | exit i =>
    simp only [exitOf, Exit.inBlock]
    by_cases hi : i = id
    · subst hi; simpa [exitOf] using h
    · have : ¬ (Out.exit i = Out.exit id) := fun hh => hi (by injection hh)
      rw [if_neg this] at h
      simpa [hi, exitOf] using h
theorem dsts_region {N : Nat} {draw : Option (List (Nat × Nat))} {slots slot : Nat} {ops : Array Oper} : ∀ {os : List Oper}, dstsOk N (.region draw slots (compOps P tr mu ops slot os).1) = true → ∀ o ∈ os, ∀ d, o.dst = some d → d < N := by
  intro os
  induction os generalizing slot with
  | nil => intro _ o ho; simp at ho
  | cons o os ih =>
    intro h o' ho' d hd
    rw [compOps_cons] at h
    simp only [dstsOk, List.all_cons, Bool.and_eq_true] at h
    rcases List.mem_cons.1 ho' with rfl | ho'
    · have := h.1
      simp only [compOper, hd] at this
      simpa using this
    · exact ih (slot := (compOp P tr mu slot o).2) (by simp only [dstsOk]; exact h.2) o' ho' d hd
/-- What is asked of a region that draws its order. -/
def DrawOK (P : Program) (fo : Nat → Option FuncId) (base N : Nat) (K0 : Known) (ρ0 : Places) (s0 : Store) (w0 : World) (call : CallSem) (flags : Nat → List Bool) (tr : FuncId → Option Nat) (F : Fence) : Prop :=
  ∀ {mu : Bool} (id : Nat) (ops : Array Oper) (e : Env) (s : Store) (a : Act) (w : World) (pairs : List (Nat × Nat)) (e' : Env) (s' : Store) (Q : Exit → Act → World → Prop),
    backward ops.toList = true → tempsOk (ancestors ops.toList) (compOps P tr mu ops 0 ops.toList).1 = true → pairs = pairsOf (ancestors ops.toList) (compOps P tr mu ops 0 ops.toList).1 →
    (∀ o ∈ ops.toList, ∀ d, o.dst = some d → d < N) → Inv P fo base N K0 ρ0 s0 w0 e s a w → runRegion call flags (some pairs) (compOps P tr mu ops 0 ops.toList).2 (compOps P tr mu ops 0 ops.toList).1 e s = some (e', s') →
    (∀ a' w', Inv P fo base N K0 ρ0 s0 w0 e' s' a' w' → Q .normal a' w') → (Code.region id ops true).wpIn F 0 P Q a w
/-- What is asked of a range over a function. -/
def RangeOK (P : Program) (fo : Nat → Option FuncId) (base N : Nat) (K0 : Known) (ρ0 : Places) (s0 : Store) (w0 : World) (call : CallSem) (flags : Nat → List Bool) (tr : FuncId → Option Nat) (F : Fence) : Prop :=
  ∀ {mu : Bool} (f : Operand) (ps : Array Tmp) (ca cb : Code) (la lb : List (List Nat)) (live : List Nat) (e : Env) (s : Store) (a : Act) (w : World) (out : Out) (e' : Env) (s' : Store) (Q : Exit → Act → World → Prop),
    F = Fence.wide → dstsOk N (.rangeFunc (opd tr f) live ps.toList (compCode P tr mu ca la).1 (compCode P tr mu cb lb).1) = true → noRange (compCode P tr mu ca la).1 = true → noRange (compCode P tr mu cb lb).1 = true → Inv P fo base N K0 ρ0 s0 w0 e s a w →
    runRange call flags (ev e (opd tr f)) live ps.toList (compCode P tr mu ca la).1 (compCode P tr mu cb lb).1 e s = some (out, e', s') →
    (∀ a' w', Inv P fo base N K0 ρ0 s0 w0 e' s' a' w' → Q (exitOf out) a' w') → (Code.rangeFunc f ps ca cb).wpIn F 0 P Q a w
theorem Out.then_spec {K : Act → World → Prop} {Q : Exit → Act → World → Prop} {out : Out} {a : Act} {w : World} (h1 : out = .normal → K a w) (h2 : out ≠ .normal → Q (exitOf out) a w) : Exit.then K Q (exitOf out) a w := by
  cases out with
  | normal => exact h1 rfl
  | exit id => exact h2 (by simp)
  | ret => exact h2 (by simp)
/-- Code and its compiled form. -/
theorem sim_code (hF : Open F) (hf : FnOK P fo) (hcall : CallOK P fo base call) (htr : ∀ g f, tr g = some f → fo f = some g) (hD : DrawOK P fo base N K0 ρ0 s0 w0 call flags tr F) (hR : RangeOK P fo base N K0 ρ0 s0 w0 call flags tr F) {fuel : Nat} :
    ∀ (c : Code) (l : List (List Nat)) {e : Env} {s : Store} {a : Act} {w : World} {out : Out} {e' : Env} {s' : Store} {Q : Exit → Act → World → Prop}, dstsOk N (compCode P tr mu c l).1 = true → (noRange (compCode P tr mu c l).1 = true ∨ F = Fence.wide) →
      Inv P fo base N K0 ρ0 s0 w0 e s a w → runCode call flags s0.length fuel (compCode P tr mu c l).1 e s = some (out, e', s') → (∀ a' w', Inv P fo base N K0 ρ0 s0 w0 e' s' a' w' → Q (exitOf out) a' w') → c.wpIn F 0 P Q a w := by
  intro c
  induction c with
  | skip =>
    intro l e s a w out e' s' Q hd hn hI h hQ
    simp only [compCode, runCode] at h
    injection h with h; injection h with h1 h2; injection h2 with h2 h3; subst h1; subst h2; subst h3
    exact wpIn_skip (hQ _ _ hI)
  | label id =>
    intro l e s a w out e' s' Q hd hn hI h hQ
    simp only [compCode, runCode] at h
    injection h with h; injection h with h1 h2; injection h2 with h2 h3; subst h1; subst h2; subst h3
    exact wpIn_label (hQ _ _ hI)
  | exit id =>
    intro l e s a w out e' s' Q hd hn hI h hQ
    simp only [compCode, runCode] at h
    injection h with h; injection h with h1 h2; injection h2 with h2 h3; subst h1; subst h2; subst h3
    exact wpIn_exit (hQ _ _ hI)
  | ret =>
    intro l e s a w out e' s' Q hd hn hI h hQ
    simp only [compCode, runCode] at h
    injection h with h; injection h with h1 h2; injection h2 with h2 h3; subst h1; subst h2; subst h3
    exact wpIn_ret (hQ _ _ hI)
  | goto id =>
    intro l e s a w out e' s' Q hd hn hI h hQ
    simp [compCode, runCode] at h
  | refuse why =>
    intro l e s a w out e' s' Q hd hn hI h hQ
    simp [compCode, runCode] at h
  | region id ops draw =>
    intro l e s a w out e' s' Q hd hn hI h hQ
    cases draw with
    | false =>
      simp only [compCode, compRegion, Bool.false_eq_true, if_false, runCode, Option.map_eq_some_iff] at h hd
      obtain ⟨⟨e1, s1⟩, h, h'⟩ := h
      injection h' with h1 h2; injection h2 with h2 h3; subst h1; subst h2; subst h3
      simp only [runRegion] at h
      refine wpIn_region ?_
      have := sim_ops (Q := Q) hF hf hcall htr ops.toList 0 (ops := ops) (N := N) (fun k => by simp) (dsts_region hd) (hI.reserve (n := (compOps P tr mu ops 0 ops.toList).2)) h (fun a' w' hI' => hQ a' w' hI')
      rw [List.range_eq_range']
      simpa using this
    | true =>
      simp only [compCode, compRegion, if_true] at h hd
      split at h
      · rename_i hc
        rw [if_pos hc] at hd
        simp only [Bool.and_eq_true] at hc
        simp only [runCode, Option.map_eq_some_iff] at h
        obtain ⟨⟨e1, s1⟩, h, h'⟩ := h
        injection h' with h1 h2; injection h2 with h2 h3; subst h1; subst h2; subst h3
        exact hD id ops e s a w _ _ _ Q hc.1 hc.2 rfl (dsts_region hd) hI h hQ
      · simp [runCode] at h
  | seq x y ihx ihy =>
    intro l e s a w out e' s' Q hd hn hI h hQ
    simp only [compCode, dstsOk, noRange, Bool.and_eq_true] at hd hn
    simp only [compCode, runCode] at h
    split at h
    · rename_i e1 s1 h1
      refine wpIn_seq (ihx l hd.1 (hn.imp (·.1) id) hI h1 fun a1 w1 hI1 => ?_)
      exact ihy _ hd.2 (hn.imp (·.2) id) hI1 h hQ
    · rename_i hne
      refine wpIn_seq (ihx l hd.1 (hn.imp (·.1) id) hI h fun a1 w1 hI1 => Out.then_spec (fun ho => ?_) (fun _ => hQ _ _ hI1))
      subst ho
      exact absurd h (hne e' s')
  | cond c x y ihx ihy =>
    intro l e s a w out e' s' Q hd hn hI h hQ
    simp only [compCode, dstsOk, noRange, Bool.and_eq_true] at hd hn
    simp only [compCode, runCode] at h
    have hc : RV _ _ _ _ _ _ := opd_spec htr hI.choose_spec.choose_spec.2.2.1 c
    split at h <;> try (cases h; done)
    · rename_i hb
      rw [hb] at hc
      exact wpIn_cond_true hc.bool_inv (ihx l hd.1 (hn.imp (·.1) id) hI h hQ)
    · rename_i hb
      rw [hb] at hc
      exact wpIn_cond_false hc.bool_inv (ihy _ hd.2 (hn.imp (·.2) id) hI h hQ)
  | block id x ih =>
    intro l e s a w out e' s' Q hd hn hI h hQ
    simp only [compCode, dstsOk, noRange] at hd hn
    simp only [compCode, runCode] at h
    refine wpIn_block ?_
    split at h
    · rename_i i e1 s1 h1
      refine ih l hd hn hI h1 fun a1 w1 hI1 => exitOf_block ?_
      split at h
      · rename_i hi
        injection h with h; injection h with q1 q2; injection q2 with q2 q3; subst q1; subst q2; subst q3
        rw [if_pos (by rw [hi])]; exact hQ _ _ hI1
      · rename_i hi
        injection h with h; injection h with q1 q2; injection q2 with q2 q3; subst q1; subst q2; subst q3
        rw [if_neg (fun hh => hi (by injection hh))]; exact hQ _ _ hI1
    · rename_i hne
      refine ih l hd hn hI h fun a1 w1 hI1 => exitOf_block ?_
      rw [if_neg (fun hh => hne id e' s' (by rw [← hh]; exact h))]
      exact hQ _ _ hI1
  | loop x ih =>
    intro l e s a w out e' s' Q hd hn hI h hQ
    cases l with
    | nil => simp [compCode, runCode] at h
    | cons live l =>
      simp only [compCode, dstsOk, noRange] at hd hn
      simp only [compCode, runCode] at h
      have key : ∀ (m : Nat) {e : Env} {s : Store} {a : Act} {w : World}, Inv P fo base N K0 ρ0 s0 w0 e s a w →
          iter (fun e s => let (e1, s1) := YtboekhenldifhaaGreat.sweep s0.length live e s; runCode call flags s0.length fuel (compCode P tr mu x l).1 e1 s1) m e s = some (out, e', s') → LoopAt F 0 P x Q a w := by
        intro m
        induction m with
        | zero => intro e s a w hI h; simp [iter] at h
        | succ m ihm =>
          intro e s a w hI h
          simp only [iter] at h
          split at h
          · rename_i e1 s1 h1
            exact .step (ih l hd hn hI.sweep h1 fun a1 w1 hI1 => ihm hI1 h)
          · rename_i hne
            refine .step (ih l hd hn hI.sweep h fun a1 w1 hI1 => Out.then_spec (fun ho => ?_) (fun _ => hQ _ _ hI1))
            subst ho
            exact absurd h (hne e' s')
      exact (key fuel hI h).wpIn
  | scope x ih =>
    intro l e s a w out e' s' Q hd hn hI h hQ
    refine wpIn_scope (ih l hd hn hI h fun a1 w1 hI1 => ?_)
    have := hQ _ _ hI1
    cases out <;> exact this
  | rangeFunc f ps x y ihx ihy =>
    intro l e s a w out e' s' Q hd hn hI h hQ
    cases l with
    | nil => simp [compCode, runCode] at h
    | cons live l =>
      simp only [compCode] at h hd hn
      split at h
      · rename_i hc
        rw [if_pos hc] at hd hn
        simp only [Bool.and_eq_true] at hc
        simp only [runCode] at h
        have hw : F = Fence.wide := by rcases hn with hn | hn; · simp [noRange] at hn
                                       · exact hn
        exact hR f ps x y _ _ live e s a w out e' s' Q hw hd hc.1 hc.2 hI h hQ
      · simp [runCode] at h
end
end Go.Proofs.YtboekhenldifhaaGreat
