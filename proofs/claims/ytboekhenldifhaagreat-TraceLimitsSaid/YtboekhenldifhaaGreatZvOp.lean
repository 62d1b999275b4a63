/- One operation of the model and its compiled form. -/
import Derived.Test.YtboekhenldifhaaGreatZvOps10
import Derived.AtR
set_option linter.unusedSimpArgs false
set_option linter.unusedVariables false
namespace Go.Proofs.YtboekhenldifhaaGreat
open Go.RowKit
variable {mu : Bool}
variable {P : Program} {fo : Nat → Option FuncId} {K : Known} {ρ : Places} {w : World} {tr : FuncId → Option Nat} {base : Nat} {s s' : Store}

/-- What an operation hands on. -/
def resV : Res → V
  | .val v => v
  | .none => skipV
/-- An operation that is no call, carried out. -/
def Ran (P : Program) (o : Oper) (η : Operand → Value) (w : World) (R : Value → World → Prop) : Prop :=
  (∃ v w', (execOp η o).run P w = .ok (.value v) w' ∧ R v w') ∨ ∃ w', (execOp η o).run P w = .ok .skip w' ∧ R undef w'
/-- What stands after a step. -/
def After (P : Program) (fo : Nat → Option FuncId) (base : Nat) (K : Known) (ρ : Places) (s : Store) (w : World) (r : V) (s' : Store) (v : Value) (w' : World) : Prop :=
  ∃ K' ρ', RS P fo base K' ρ' s' w' ∧ Stp base K ρ s w K' ρ' s' w' ∧ RV fo K' ρ' (vo s') r v
section
variable {o : Oper} {η : Operand → Value} {res : Res}
theorem Ran.pure {x : Sem Value} {v : Value} {r : V} (hS : RS P fo base K ρ s w) (hx : execOp η o = (do return .value (← x))) (h : x.run P w = .ok v w) (hv : RV fo K ρ (vo s) r v) (hs : res = .val r) (hss : s = s') : Ran P o η w (After P fo base K ρ s w (resV res) s') := by
  subst hs; subst hss
  exact .inl ⟨v, w, by rw [hx]; simp [Sem.run_bind, h], K, ρ, hS, .refl, hv⟩
theorem Ran.val {x : Sem Value} {v : Value} {w' : World} {r : V} (hx : execOp η o = (do return .value (← x))) (h : x.run P w = .ok v w') (hv : After P fo base K ρ s w r s' v w') (hs : res = .val r) : Ran P o η w (After P fo base K ρ s w (resV res) s') := by
  subst hs
  exact .inl ⟨v, w', by rw [hx]; simp [Sem.run_bind, h], hv⟩
theorem rv_skip {vv : Nat → Option (Nat × Nat)} : RV fo K ρ vv skipV undef := .d _ _ (.tuple [] #[] .nil)
theorem Ran.unit {x : Sem Unit} {w' : World} (hx : execOp η o = (do x; return .skip)) (h : x.run P w = .ok () w') (hS : RS P fo base K ρ s' w') (hT : Stp base K ρ s w K ρ s' w') (hs : res = .none) : Ran P o η w (After P fo base K ρ s w (resV res) s') := by
  subst hs
  exact .inr ⟨w', by rw [hx]; simp [Sem.run_bind, h], K, ρ, hS, hT, rv_skip⟩
end
theorem opt_spec {lo : Option Operand} {e : Env} {a : Act} (htr : ∀ g f, tr g = some f → fo f = some g) {vv : Nat → Option (Nat × Nat)} (he : RE fo K ρ vv e a.tmps) :
    ((lo.map (opd tr)).map (ev e) = none ∧ lo.map a.eval = none) ∨ ∃ x v, (lo.map (opd tr)).map (ev e) = some x ∧ lo.map a.eval = some v ∧ RV fo K ρ vv x v := by
  cases lo with
  | none => exact .inl ⟨rfl, rfl⟩
  | some x => exact .inr ⟨_, _, rfl, rfl, opd_spec htr he x⟩
theorem append_congr {tys : Array TypeId} {sT xT ty : TypeId} (h0 : tys[0]? = some sT) (h1 : tys[1]? = some xT) (args : Array Value) : Builtin.append_ tys ty args = Builtin.append_ #[sT, xT] ty args := by
  unfold Builtin.append_
  simp [h0, h1]
theorem known_scalar {x : V} (h : x.cells.all scalarV = true) : known x = true := by cases x <;> first | rfl | (simp [V.cells, scalarV] at h)
theorem mapM_get {α β : Type} {f : α → Option β} : ∀ {l : List α} {r : List β}, l.mapM f = some r → r.length = l.length ∧ ∀ (k : Nat) x, l[k]? = some x → ∃ y, f x = some y ∧ r[k]? = some y
  | [], r, h => by simp at h; subst h; simp
  | x :: l, r, h => by
    simp only [List.mapM_cons, Option.bind_eq_bind, Option.bind_eq_some_iff, Option.pure_def, Option.some.injEq] at h
    obtain ⟨y, hy, r', hr, rfl⟩ := h
    obtain ⟨h1, h2⟩ := mapM_get hr
    refine ⟨by simp [h1], fun k x' hk => ?_⟩
    cases k with
    | zero => simp at hk; subst hk; exact ⟨y, hy, by simp⟩
    | succ k => simpa using h2 k x' (by simpa using hk)
theorem map_pairs (parts : Array (Nat × Operand)) (g : Operand → Value) : (parts.map fun (i, x) => (i, g x)) = (parts.toList.map fun (i, x) => (i, g x)).toArray := by cases parts; simp
theorem pair_get {parts : List (Nat × Operand)} {g : Operand → Value} {k i : Nat} {v : Value} (h : (parts.map fun (i, x) => (i, g x))[k]? = some (i, v)) : ∃ x, parts[k]? = some (i, x) ∧ v = g x := by
  simp only [List.getElem?_map, Option.map_eq_some_iff] at h
  obtain ⟨⟨i', x⟩, h, h'⟩ := h
  injection h' with h1 h2; subst h1; subst h2
  exact ⟨x, h, rfl⟩
theorem isStr_inv {x : V} (h : isStr x = true) : ∃ b, x = .d (.str b) := by
  unfold isStr at h; split at h
  · exact ⟨_, rfl⟩
  · cases h
section
variable {call : CallSem} {flags : Nat → List Bool} {b0 slot : Nat} {o : Oper} {e : Env} {a : Act} {res : Res}
theorem sim_plain (htr : ∀ g f, tr g = some f → fo f = some g) (hS : RS P fo base K ρ s w) (he : RE fo K ρ (vo s) e a.tmps) (hno : ∀ c f, o.op = .call c → c.callee ≠ .value f) (h : runOp call flags b0 (compOp P tr mu slot o).1 e s = some (res, s')) :
    Ran P o a.eval w (After P fo base K ρ s w (resV res) s') := by
  have hop : ∀ x, RV fo K ρ (vo s) (ev e (opd tr x)) (a.eval x) := fun x => opd_spec htr he x
  have hopt : ∀ lo : Option Operand, ((lo.map (opd tr)).map (ev e) = none ∧ lo.map a.eval = none) ∨ ∃ x v, (lo.map (opd tr)).map (ev e) = some x ∧ lo.map a.eval = some v ∧ RV fo K ρ (vo s) x v := fun lo => opt_spec htr he
  cases ho : o.op with
  | move x =>
    simp only [compOp, ho, Option.getD_some, runOp] at h
    injection h with h; injection h with h1 h2
    exact .pure (x := Pure.pure (a.eval x)) hS (by simp [execOp, ho]) (by simp) (hop x) h1.symm h2
  | assign x =>
    simp only [compOp, ho, Option.getD_some, runOp] at h
    injection h with h; injection h with h1 h2
    exact .pure (x := Pure.pure (a.eval x)) hS (by simp [execOp, ho]) (by simp) (hop x) h1.symm h2
  | pick c x y =>
    simp only [compOp, ho, Option.getD_some, runOp] at h
    split at h <;> try (cases h; done)
    rename_i b hb
    injection h with h; injection h with h1 h2
    have hc := hop c
    rw [hb] at hc
    have hc := hc.bool_inv
    refine .pure (x := do Pure.pure (if ← asBool (a.eval c) then a.eval x else a.eval y)) hS (by simp [execOp, ho]) (v := if b then a.eval x else a.eval y) (by simp [hc, asBool, Sem.run_bind]) ?_ h1.symm h2
    cases b <;> simp [hop]
  | alloc t =>
    simp only [compOp, ho] at h
    cases hz : zeroT P tr t with
    | none => simp [hz, runOp] at h
    | some z =>
      simp only [hz, Option.map_some, Option.getD_some, runOp] at h
      split at h <;> try (cases h; done)
      rename_i hsc
      simp only [Option.map_eq_some_iff] at h
      obtain ⟨s1, h, h'⟩ := h
      injection h' with h1 h2; subst h2
      obtain ⟨v, ρ', w', e1, e2, e3, e4⟩ := alloc_spec htr hS hz hsc h
      exact .val (x := Instr.alloc t true (.tuple #[])) (by simp [execOp, ho]) e1 ⟨K, ρ', e2, e3, e4⟩ h1.symm
  | box t x =>
    simp only [compOp, ho, Option.getD_some, runOp] at h
    split at h <;> try (cases h; done)
    rename_i hsc
    simp only [Option.map_eq_some_iff] at h
    obtain ⟨s1, h, h'⟩ := h
    injection h' with h1 h2; subst h2
    obtain ⟨v, ρ', w', e1, e2, e3, e4⟩ := box_spec (t := t) hS (hop x) (known_scalar hsc) hsc h
    exact .val (x := Instr.box t (a.eval x)) (by simp [execOp, ho]) e1 ⟨K, ρ', e2, e3, e4⟩ h1.symm
  | load t x =>
    simp only [compOp, ho] at h
    cases hb : aggT P t with
    | none => simp [hb, runOp] at h
    | some b =>
      cases hn : sizeT P t with
      | none => simp [hb, hn, runOp] at h
      | some n =>
        by_cases hc : b || n == 1
        · simp only [hb, hn, Option.bind_eq_bind, Option.bind_some, hc, if_true, Option.getD_some, runOp, Option.map_eq_some_iff] at h
          obtain ⟨r, h, h'⟩ := h
          injection h' with h1 h2
          obtain ⟨z, e1, e2⟩ := load_spec hS hb hn (by rintro rfl; simpa using hc) (hop x) h
          exact .pure (x := Instr.loadAt t (a.eval x)) hS (by simp [execOp, ho]) e1 e2 h1.symm h2
        · simp only [hb, hn, Option.bind_eq_bind, Option.bind_some, if_neg hc, Option.getD_none] at h
          simp [runOp] at h
  | store t x y =>
    simp only [compOp, ho] at h
    cases hn : sizeT P t with
    | none => simp [hn, runOp] at h
    | some n =>
      simp only [hn, Option.bind_eq_bind, Option.bind_some, Option.getD_some, runOp, Option.map_eq_some_iff] at h
      obtain ⟨s1, h, h'⟩ := h
      injection h' with h1 h2; subst h2
      obtain ⟨w', e1, e2, e3⟩ := store_spec hS hn (hop x) (hop y) h
      exact .unit (x := Instr.storeAt t (a.eval x) (a.eval y)) (by simp [execOp, ho]) e1 e2 e3 h1.symm
  | nilCheck x =>
    simp only [compOp, ho, Option.getD_some, runOp, Option.map_eq_some_iff] at h
    obtain ⟨r, h, h'⟩ := h
    injection h' with h1 h2
    obtain ⟨e1, e2⟩ := nilc_spec (hop x) h
    refine .pure (x := Pure.pure (a.eval x)) hS ?_ (by simp) e1 h1.symm h2
    rcases e2 with ⟨q, e2⟩ | ⟨g, p, q, e2⟩ | ⟨l, e2⟩ <;> simp [execOp, ho, e2]
  | binOp op t x y _ =>
    simp only [compOp, ho, Option.getD_some, runOp, Option.map_eq_some_iff] at h
    obtain ⟨r, h, h'⟩ := h
    injection h' with h1 h2
    obtain ⟨z, e1, e2⟩ := bin_spec (ox := x) (oy := y) (hop x) (hop y) h w
    exact .pure hS (by simp [execOp, ho]) e1 e2 h1.symm h2
  | unOp op t x =>
    simp only [compOp, ho, Option.getD_some, runOp, Option.map_eq_some_iff] at h
    obtain ⟨r, h, h'⟩ := h
    injection h' with h1 h2
    obtain ⟨z, e1, e2⟩ := un_spec (hop x) h w
    exact .pure hS (by simp [execOp, ho]) e1 e2 h1.symm h2
  | convert sT dT x =>
    simp only [compOp, ho] at h
    split at h
    · rename_i k0 k hs hd
      simp only [Option.getD_some, runOp] at h
      split at h <;> try (cases h; done)
      rename_i k' n hx
      injection h with h; injection h with h1 h2
      have hv := hop x
      rw [hx] at hv
      exact .pure hS (by simp [execOp, ho]) (conv_spec hs hd hv w) (.of_int _ _) h1.symm h2
    · simp [runOp] at h
  | makeSlice t l c =>
    simp only [compOp, ho] at h
    cases hu : P.underlying t with
    | none => simp [hu, runOp] at h
    | some d =>
      cases d with
      | slice el =>
        cases hs : sizeT P el with
        | none => simp [hu, hs, runOp] at h
        | some n =>
          cases hz : zeroT P tr el with
          | none => simp [hu, hs, hz, runOp] at h
          | some z =>
            by_cases hc : z.length = n ∧ 0 < n
            · cases hb : bytesT P el with
              | none => simp only [hu, hs, hz, hb, Option.bind_eq_bind, Option.bind_some, if_pos hc, Option.bind_none, Option.getD_none] at h; simp [runOp] at h
              | some bytes =>
                simp only [hu, hs, hz, hb, Option.bind_eq_bind, Option.bind_some, if_pos hc, Option.getD_some, runOp] at h
                split at h <;> try (cases h; done)
                rename_i ln cp il ic
                split at h <;> try (cases h; done)
                rename_i hcond
                simp only [Option.map_eq_some_iff] at h
                obtain ⟨s1, h, h'⟩ := h
                injection h' with h1 h2; subst h2
                obtain ⟨u, ρ', w', e1, e2, e3, e4⟩ := mkslice_spec htr hS hu hs hb hz hc.2 hc.1 (hop l) (hop c) il ic hcond.1 hcond.2.1 hcond.2.2.1 h
                exact .val (by simp [execOp, ho]) e1 ⟨K, ρ', e2, e3, e4⟩ h1.symm
            · simp only [hu, hs, hz, Option.bind_eq_bind, Option.bind_some, if_neg hc, Option.getD_none] at h; simp [runOp] at h
      | _ => simp [hu, runOp] at h
  | fieldAddr t x i =>
    simp only [compOp, ho] at h
    cases hu : P.underlying t with
    | none => simp [hu, runOp] at h
    | some d =>
      cases d with
      | struct fields =>
        cases hf : fields[i]? with
        | none => simp [hu, hf, runOp] at h
        | some f =>
          cases hn : sizeT P f.type with
          | none => simp [hu, hf, hn, runOp] at h
          | some n =>
            by_cases hc : 0 < n
            · simp only [hu, hf, hn, Option.bind_some, if_pos hc, Option.getD_some, runOp, Option.map_eq_some_iff] at h
              obtain ⟨r, h, h'⟩ := h
              injection h' with h1 h2
              obtain ⟨z, e1, e2⟩ := faddr_spec hu hf hn hc (hop x) h w
              exact .pure hS (by simp [execOp, ho]) e1 e2 h1.symm h2
            · simp only [hu, hf, hn, Option.bind_some, if_neg hc, Option.getD_none] at h; simp [runOp] at h
      | _ => simp [hu, runOp] at h
  | indexAddr t x i =>
    simp only [compOp, ho] at h
    cases hu : P.underlying t with
    | none => simp [hu, runOp] at h
    | some d =>
      cases d with
      | slice el =>
        cases hs : sizeT P el with
        | none => simp [hu, hs, runOp] at h
        | some n =>
          by_cases hc : 0 < n
          · simp only [hu, hs, Option.bind_some, if_pos hc, Option.getD_some, runOp, Option.map_eq_some_iff] at h
            obtain ⟨r, h, h'⟩ := h
            injection h' with h1 h2
            obtain ⟨z, e1, e2⟩ := iaddrS_spec (w := w) hu hs hc (hop x) (hop i) h
            exact .pure hS (by simp [execOp, ho]) e1 e2 h1.symm h2
          · simp only [hu, hs, Option.bind_some, if_neg hc, Option.getD_none] at h; simp [runOp] at h
      | array n el =>
        cases hs : sizeT P el with
        | none => simp [hu, hs, runOp] at h
        | some k =>
          simp only [hu, hs, Option.bind_some, Option.getD_some, runOp, Option.map_eq_some_iff] at h
          obtain ⟨r, h, h'⟩ := h
          injection h' with h1 h2
          obtain ⟨z, e1, e2⟩ := iaddrA_spec hu hs (hop x) (hop i) h w
          exact .pure hS (by simp [execOp, ho]) e1 e2 h1.symm h2
      | _ => simp [hu, runOp] at h
  | index t x i =>
    simp only [compOp, ho] at h
    cases hu : P.underlying t with
    | none => simp [hu, runOp] at h
    | some d =>
      cases d with
      | string =>
        simp only [hu, Option.getD_some, runOp, Option.map_eq_some_iff] at h
        obtain ⟨r, h, h'⟩ := h
        injection h' with h1 h2
        obtain ⟨z, e1, e2⟩ := index_spec hu (hop x) (hop i) h w
        exact .pure hS (by simp [execOp, ho]) e1 e2 h1.symm h2
      | array n el =>
        by_cases hc : sizeT P el = some 1 ∧ aggT P el = some false
        · simp only [hu, if_pos hc, Option.getD_some, runOp, Option.map_eq_some_iff] at h
          obtain ⟨r, h, h'⟩ := h
          injection h' with h1 h2
          obtain ⟨z, e1, e2⟩ := indexA_spec hu hc.1 hc.2 (hop x) (hop i) h w
          exact .pure hS (by simp [execOp, ho]) e1 e2 h1.symm h2
        · simp only [hu, if_neg hc, Option.getD_none] at h; simp [runOp] at h
      | _ => simp [hu, runOp] at h
  | lookup t m k c =>
    simp only [compOp, ho] at h
    cases hu : P.underlying t with
    | none => simp [hu, runOp] at h
    | some d =>
      cases d with
      | map kt el =>
        cases hi : P.info? el with
        | none => simp [hu, hi, runOp] at h
        | some i =>
          cases hz : i.zero with
          | none => simp [hu, hi, hz, runOp] at h
          | some z =>
            simp only [hu, hi, hz, Option.bind_some, Option.map_some, Option.getD_some, runOp, Option.map_eq_some_iff] at h
            obtain ⟨r, h, h'⟩ := h
            injection h' with h1 h2
            obtain ⟨u, e1, e2⟩ := lookup_spec htr hS hu hi hz (hop m) (hop k) h
            exact .pure hS (by simp [execOp, ho]) e1 e2 h1.symm h2
      | _ => simp [hu, runOp] at h
  | mapUpdate t m k x =>
    simp only [compOp, ho] at h
    cases hu : P.underlying t with
    | none => simp [hu, runOp] at h
    | some d =>
      cases d with
      | map kt el =>
        simp only [hu, Option.getD_some, runOp, Option.map_eq_some_iff] at h
        obtain ⟨s1, h, h'⟩ := h
        injection h' with h1 h2; subst h2
        obtain ⟨w', e1, e2, e3⟩ := mapup_spec hS hu (hop m) (hop k) (hop x) h
        exact .unit (by simp [execOp, ho]) e1 e2 e3 h1.symm
      | _ => simp [hu, runOp] at h
  | makeMap t r =>
    cases r with
    | some r => simp [compOp, ho, runOp] at h
    | none =>
      simp only [compOp, ho, Option.getD_some, runOp, Option.map_eq_some_iff] at h
      obtain ⟨s1, h, h'⟩ := h
      injection h' with h1 h2; subst h2
      obtain ⟨u, ρ', w', e1, e2, e3, e4⟩ := mkmap_spec (t := t) hS h
      exact .val (by simp [execOp, ho]) e1 ⟨K, ρ', e2, e3, e4⟩ h1.symm
  | extract x i =>
    simp only [compOp, ho, Option.getD_some, runOp] at h
    have hx := hop x
    generalize hq : ev e (opd tr x) = q at h hx
    have key : ∀ r, (match (generalizing := false) q with | .d (.tuple vs) => (vs[i]?).map V.d | .tuple vs => vs[i]? | _ => none) = some r → res = .val r → s = s' → Ran P o a.eval w (After P fo base K ρ s w (resV res) s') := fun r hr h1 h2 => by
      obtain ⟨z, e1, e2⟩ := ext_spec hx (r := r) (i := i) hr w
      exact .pure hS (by simp [execOp, ho]) e1 e2 h1 h2
    cases q with
    | d y =>
      cases y with
      | tuple vs =>
        simp only [Option.map_map, Option.map_eq_some_iff] at h
        obtain ⟨r, h, h'⟩ := h
        injection h' with h1 h2
        exact key (.d r) (by simp [h]) h1.symm h2
      | _ => cases h
    | tuple vs =>
      simp only [Option.map_eq_some_iff] at h
      obtain ⟨r, h, h'⟩ := h
      injection h' with h1 h2
      exact key r h h1.symm h2
    | _ => cases h
  | makeFunc f x y =>
    cases f with
    | func g =>
      simp only [compOp, ho] at h
      cases hg : tr g with
      | none => simp [hg, runOp] at h
      | some k =>
        simp only [hg, Option.map_some, Option.getD_some, runOp] at h
        injection h with h; injection h with h1 h2
        have e1 : RVs fo K ρ (vo s) ((ints tr x).map (ev e)) (x.map a.eval).toList := by
          rw [Array.toList_map]; exact opds_spec htr he x.toList
        have e2 : RVs fo K ρ (vo s) ((ints tr y).map (ev e)) (y.map a.eval).toList := by
          rw [Array.toList_map]; exact opds_spec htr he y.toList
        exact .pure (x := Instr.makeFunc (.func g) (x.map a.eval) (y.map a.eval)) hS (by simp [execOp, ho]) (by simp [Instr.makeFunc]) (.mkFunc (htr _ _ hg) e1 e2) h1.symm h2
    | _ => simp [compOp, ho, runOp] at h
  | build t parts =>
    simp only [compOp, ho] at h
    cases hz : zeroT P tr t with
    | none => simp [hz, runOp] at h
    | some z =>
      cases hu : P.underlying t with
      | none => simp [hz, hu, runOp] at h
      | some d =>
        cases d with
        | struct fields =>
          simp only [hz, hu, Option.bind_eq_bind, Option.bind_some] at h
          split at h
          · simp [runOp] at h
          · rename_i hall
            cases hm : parts.toList.mapM (fun (x : Nat × Operand) => do let f ← fields[x.1]?; some (f.offset, ← sizeT P f.type, opd tr x.2)) with
            | none =>
              simp only [Option.bind_eq_bind] at hm
              simp only [hm, Option.bind_none, Option.getD_none] at h; simp [runOp] at h
            | some l =>
              have hm' := hm
              simp only [Option.bind_eq_bind] at hm
              simp only [hm, Option.bind_some, Option.getD_some, runOp, Option.map_eq_some_iff] at h
              obtain ⟨r, ⟨r0, h, h0⟩, h'⟩ := h
              injection h' with h1 h2
              subst h0
              obtain ⟨l1, l2⟩ := mapM_get hm'
              obtain ⟨v, e1, e2⟩ := build_struct (ρ := ρ) (vv := vo s) (K := K) htr hu hz (parts := parts.toList.map fun (i, x) => (i, a.eval x)) (by
                have h2 : (fields.toList.all fun f => (sizeT P f.type).isSome) = true := by
                  cases hq : (fields.toList.all fun f => (sizeT P f.type).isSome) with
                  | true => rfl
                  | false => exact absurd (by rw [hq]; rfl) hall
                exact fun f hf => List.all_eq_true.1 h2 f hf) (by simp [l1]) (fun k i v hk => by
                obtain ⟨x, hx, rfl⟩ := pair_get hk
                obtain ⟨y, hy, hy'⟩ := l2 k _ hx
                simp only [Option.bind_eq_bind, Option.bind_eq_some_iff, Option.some.injEq] at hy
                obtain ⟨f, hf, n, hn, rfl⟩ := hy
                exact ⟨f, n, _, by simp only [List.getElem?_map, hy', Option.map_some], hf, hn, hop x⟩) h w
              exact .pure hS (by simp only [execOp, ho, map_pairs]) e1 e2 h1.symm h2
        | array m el =>
          cases hs : sizeT P el with
          | none => simp [hz, hu, hs, runOp] at h
          | some n =>
            simp only [hz, hu, hs, Option.bind_eq_bind, Option.bind_some, Option.getD_some, runOp, Option.map_eq_some_iff] at h
            obtain ⟨r, ⟨r0, h, h0⟩, h'⟩ := h
            injection h' with h1 h2
            subst h0
            obtain ⟨v, e1, e2⟩ := build_array (ρ := ρ) (vv := vo s) (K := K) htr hu hz hs (parts := parts.toList.map fun (i, x) => (i, a.eval x)) (by simp) (fun k i v hk => by
              obtain ⟨x, hx, rfl⟩ := pair_get hk
              exact ⟨_, by simp only [List.getElem?_map, hx, Option.map_some], hop x⟩) h w
            exact .pure hS (by simp only [execOp, ho, map_pairs]) e1 e2 h1.symm h2
        | _ => simp [hz, hu, runOp] at h
  | buildSlice t n parts =>
    cases hmu : (mu && Nat.blt 0 n) with
    | false =>
      simp only [compOp, ho, hmu, cond_false] at h
      cases hu : P.underlying t with
      | none => simp [hu, runOp] at h
      | some d =>
        cases d with
        | slice el =>
          cases hs : sizeT P el with
          | none => simp [hu, hs, runOp] at h
          | some k =>
            cases hz : zeroT P tr el with
            | none => simp [hu, hs, hz, runOp] at h
            | some z =>
              by_cases hc : n * k ≤ 2 ^ 20 ∧ z.length = k ∧ 0 < k
              · simp only [hu, hs, hz, Option.bind_eq_bind, Option.bind_some, if_pos hc, Option.getD_some, runOp] at h
                split at h <;> try (cases h; done)
                rename_i rs hf
                split at h <;> try (cases h; done)
                rename_i hsc
                simp only [Option.map_eq_some_iff] at h
                obtain ⟨⟨es, fz⟩, hd, h'⟩ := h
                injection h' with h1 h2; subst h2
                obtain ⟨v, K', w', e1, e2, e3, e4⟩ := bslice_spec htr hS hu hs hz hc.1 hc.2.1 hc.2.2 (parts := parts.toList.map fun (i, x) => (i, a.eval x)) (by simp) (fun k i v hk => by
                  obtain ⟨x, hx, rfl⟩ := pair_get hk
                  exact ⟨_, by simp only [List.getElem?_map, hx, Option.map_some], hop x⟩) hf hsc hd
                exact .val (by simp only [execOp, ho, map_pairs]) e1 ⟨K', ρ, e2, e3, e4⟩ h1.symm
              · simp only [hu, hs, hz, Option.bind_eq_bind, Option.bind_some, if_neg hc, Option.getD_none] at h; simp [runOp] at h
        | _ => simp [hu, runOp] at h
    | true =>
      simp only [compOp, ho, hmu, cond_true] at h
      cases hu : P.underlying t with
      | none => simp [hu, runOp] at h
      | some d =>
        cases d with
        | slice el =>
          cases hs : sizeT P el with
          | none => simp [hu, hs, runOp] at h
          | some k =>
            cases hz : zeroT P tr el with
            | none => simp [hu, hs, hz, runOp] at h
            | some z =>
              by_cases hc : n * k ≤ 2 ^ 20 ∧ z.length = k ∧ 0 < k
              · simp only [hu, hs, hz, Option.bind_eq_bind, Option.bind_some, if_pos hc, Option.getD_some, runOp] at h
                split at h <;> try (cases h; done)
                rename_i rs hf
                split at h <;> try (cases h; done)
                rename_i hsc
                simp only [Option.map_eq_some_iff] at h
                obtain ⟨s1, hd, h'⟩ := h
                injection h' with h1 h2; subst h2
                obtain ⟨v, ρ', w', e1, e2, e3, e4⟩ := mslice_spec htr hS hu hs hz hc.1 hc.2.1 hc.2.2 (parts := parts.toList.map fun (i, x) => (i, a.eval x)) (by simp) (fun k i v hk => by
                  obtain ⟨x, hx, rfl⟩ := pair_get hk
                  exact ⟨_, by simp only [List.getElem?_map, hx, Option.map_some], hop x⟩) hf hsc hd
                exact .val (by simp only [execOp, ho, map_pairs]) e1 ⟨K, ρ', e2, e3, e4⟩ h1.symm
              · simp only [hu, hs, hz, Option.bind_eq_bind, Option.bind_some, if_neg hc, Option.getD_none] at h; simp [runOp] at h
        | _ => simp [hu, runOp] at h
  | slice t x lo hi mx =>
    cases mx with
    | some m =>
      simp only [compOp, ho] at h
      split at h
      · cases hs : sizeT P ‹TypeId› with
        | none => simp [hs, runOp] at h
        | some n => simp [hs, runOp] at h
      · simp [runOp] at h
      · simp [runOp] at h
      · simp [runOp] at h
    | none =>
      simp only [compOp, ho] at h
      cases hu : P.underlying t with
      | none => simp [hu, runOp] at h
      | some d =>
        cases d with
        | slice el =>
          cases hs : sizeT P el with
          | none => simp [hu, hs, runOp] at h
          | some n =>
            by_cases hc : 0 < n
            · simp only [hu, hs, Option.bind_some, hc, decide_true, Option.isNone_none, Bool.and_self, if_true, Option.getD_some, runOp] at h
              split at h <;> try (cases h; done)
              rename_i hst
              simp only [Option.map_eq_some_iff] at h
              obtain ⟨r, h, h'⟩ := h
              injection h' with h1 h2
              have hns : ∀ b, ev e (opd tr x) ≠ .d (.str b) := fun b hb => by
                rw [hb] at hst
                simp [isStr] at hst; omega
              obtain ⟨z, e1, e2⟩ := slice_spec (w := w) hu hs hc (hop x) (hopt lo) (hopt hi) h hns
              exact .pure hS (by simp [execOp, ho]) e1 e2 h1.symm h2
            · simp [hu, hs, hc, runOp] at h
        | string =>
          simp only [hu, Option.isNone_none, if_true, Option.getD_some, runOp] at h
          split at h <;> try (cases h; done)
          rename_i hst
          simp only [Option.map_eq_some_iff] at h
          obtain ⟨r, h, h'⟩ := h
          injection h' with h1 h2
          obtain ⟨b, hb⟩ := isStr_inv (x := ev e (opd tr x)) (by simpa using hst)
          rw [hb] at h
          have hx := hop x
          rw [hb] at hx
          obtain ⟨z, e1, e2⟩ := slice_str hu (hopt lo) (hopt hi) h w
          exact .pure hS (by simp [execOp, ho, hx.str_inv]) e1 e2 h1.symm h2
        | array n el =>
          cases hs : sizeT P el with
          | none => simp [hu, hs, runOp] at h
          | some k =>
            simp only [hu, hs, Option.isNone_none, if_true, Option.map_some, Option.getD_some, runOp, Option.map_eq_some_iff] at h
            obtain ⟨r, h, h'⟩ := h
            injection h' with h1 h2
            obtain ⟨z, e1, e2⟩ := slarr_spec hu hs (hop x) (hopt lo) (hopt hi) h w
            exact .pure hS (by simp [execOp, ho]) e1 e2 h1.symm h2
        | _ => simp [hu, runOp] at h
  | call c =>
    cases hc : c.callee with
    | value f => exact absurd hc (hno c f ho)
    | invoke r n => simp [compOp, ho, hc, runOp] at h
    | builtin b =>
      have hexec : execOp a.eval o = builtin b c.argTypes o.type (c.args.map fun | .const _ => true | _ => false) (c.args.map a.eval) := by
        simp [execOp, ho, resolve, hc, invoke]
        rfl
      have hargs : ∀ xs : List Operand, c.args.toList = xs → (c.args.map a.eval) = (xs.map a.eval).toArray := fun xs hx => by
        rw [← hx]; cases c.args; simp
      cases b with
      | len =>
        simp only [compOp, ho, hc] at h
        split at h
        · rename_i x hx
          have ha := hargs _ hx
          have hlen : ∀ (t : TypeId) (d : TypeDesc), c.argTypes[0]? = some t → P.underlying t = some d → ∀ q : Nat, (match d with | .slice _ => ∃ p cap, a.eval x = .slice p q cap | .string => ∃ b, a.eval x = .string b ∧ b.size = q | .map _ _ => (a.eval x = .map none ∧ q = 0) ∨ ∃ r ents c, a.eval x = .map (some r) ∧ w.heap[r]? = some (.map ents c) ∧ ents.size = q | .array m _ => q = m | _ => False) →
              (Builtin.len_ c.argTypes o.type (c.args.map a.eval)).run P w = .ok (.int .i64 q) w := fun t d ht hd q hq => by
            rw [ha]
            cases d with
            | slice el => obtain ⟨p, cap, hq⟩ := hq; simp [Builtin.len_, ht, Sem.run_bind, run_underlying hd, Result.andThen_ok, hq, goInt]
            | string => obtain ⟨b, hq, rfl⟩ := hq; simp [Builtin.len_, ht, Sem.run_bind, run_underlying hd, Result.andThen_ok, hq, goInt]
            | map kt el =>
              rcases hq with ⟨hq, rfl⟩ | ⟨r, ents, cl, hq, h1, rfl⟩
              · simp [Builtin.len_, ht, Sem.run_bind, run_underlying hd, Result.andThen_ok, hq, goInt]
              · simp [Builtin.len_, ht, Sem.run_bind, run_underlying hd, Result.andThen_ok, hq, goInt, MapKept.run_getObj_map h1]
            | array m el => subst hq; simp [Builtin.len_, ht, Sem.run_bind, run_underlying hd, Result.andThen_ok, goInt]
            | _ => cases hq
          have hfin : ∀ (t : TypeId) (d : TypeDesc) (k : Cmp), c.argTypes[0]? = some t → P.underlying t = some d →
              (∀ q : Nat, lenK k (ev e (opd tr x)) = true → lenV s (ev e (opd tr x)) = some q → (match d with | .slice _ => ∃ p cap, a.eval x = .slice p q cap | .string => ∃ b, a.eval x = .string b ∧ b.size = q | .map _ _ => (a.eval x = .map none ∧ q = 0) ∨ ∃ r ents c, a.eval x = .map (some r) ∧ w.heap[r]? = some (.map ents c) ∧ ents.size = q | .array m _ => q = m | _ => False)) →
              runOp call flags b0 (.len k (opd tr x)) e s = some (res, s') → Ran P o a.eval w (After P fo base K ρ s w (resV res) s') := fun t d k ht hd hq h => by
            simp only [runOp] at h
            split at h <;> try (cases h; done)
            rename_i hk
            cases hq0 : lenV s (ev e (opd tr x)) with
            | none => simp [hq0] at h
            | some q =>
            simp only [hq0, Option.map_some] at h
            injection h with h; injection h with h1 h2
            exact .pure (x := Builtin.len_ c.argTypes o.type (c.args.map a.eval)) hS (by rw [hexec]; rfl) (hlen t d ht hd q (hq q hk hq0)) (.of_int _ _) h1.symm h2
          cases ht : c.argTypes[0]? with
          | none => simp [ht, runOp] at h
          | some t =>
            cases hu : P.underlying t with
            | none => simp [ht, hu, runOp] at h
            | some d =>
              have hx := hop x
              cases d with
              | slice el =>
                simp only [ht, hu, Option.bind_some, Option.getD_some] at h
                refine hfin t _ .slice ht hu (fun q hk hq => ?_) h
                rcases lenV_spec hS (hop x) hq with h | ⟨b, h, _⟩ | ⟨h, _⟩ | ⟨r, en, cc, h, _⟩
                · exact h
                all_goals (exfalso; rw [h] at hx; generalize ev e (opd tr x) = y at hk hx; cases hx <;> first | (simp [lenK] at hk; done) | (rename_i hx; cases hx <;> simp [lenK] at hk))
              | string =>
                simp only [ht, hu, Option.bind_some, Option.getD_some] at h
                refine hfin t _ .str ht hu (fun q hk hq => ?_) h
                rcases lenV_spec hS (hop x) hq with ⟨p, cap, h⟩ | h | ⟨h, _⟩ | ⟨r, en, cc, h, _⟩
                · exfalso; rw [h] at hx; generalize ev e (opd tr x) = y at hk hx; cases hx <;> first | (simp [lenK] at hk; done) | (rename_i hx; cases hx <;> simp [lenK] at hk)
                · exact h
                all_goals (exfalso; rw [h] at hx; generalize ev e (opd tr x) = y at hk hx; cases hx <;> first | (simp [lenK] at hk; done) | (rename_i hx; cases hx <;> simp [lenK] at hk))
              | map kt el =>
                simp only [ht, hu, Option.bind_some, Option.getD_some] at h
                refine hfin t _ .map ht hu (fun q hk hq => ?_) h
                rcases lenV_spec hS (hop x) hq with ⟨p, cap, h⟩ | ⟨b, h, _⟩ | h | h
                · exfalso; rw [h] at hx; generalize ev e (opd tr x) = y at hk hx; cases hx <;> first | (simp [lenK] at hk; done) | (rename_i hx; cases hx <;> simp [lenK] at hk)
                · exfalso; rw [h] at hx; generalize ev e (opd tr x) = y at hk hx; cases hx <;> first | (simp [lenK] at hk; done) | (rename_i hx; cases hx <;> simp [lenK] at hk)
                · exact .inl h
                · exact .inr h
              | array m el =>
                simp only [ht, hu, Option.bind_some, Option.getD_some, runOp] at h
                injection h with h; injection h with h1 h2
                exact .pure (x := Builtin.len_ c.argTypes o.type (c.args.map a.eval)) hS (by rw [hexec]; rfl) (hlen t _ ht hu m rfl) (.of_int _ _) h1.symm h2
              | _ => simp [ht, hu, runOp] at h
        · simp [runOp] at h
      | append =>
        simp only [compOp, ho, hc] at h
        split at h
        · rename_i x y hx
          have ha := hargs _ hx
          cases h0 : c.argTypes[0]? with
          | none => simp [h0, runOp] at h
          | some t0 =>
            cases hu0 : P.underlying t0 with
            | none => simp [h0, hu0, runOp] at h
            | some d0 =>
              cases d0 with
              | slice el =>
                cases h1 : c.argTypes[1]? with
                | none => simp [h0, hu0, h1, runOp] at h
                | some t1 =>
                  cases hu1 : P.underlying t1 with
                  | none => simp [h0, hu0, h1, hu1, runOp] at h
                  | some d1 =>
                    cases d1 with
                    | slice el' =>
                      cases hs : sizeT P el with
                      | none => simp [h0, hu0, h1, hu1, hs, runOp] at h
                      | some n =>
                        cases hz : zeroT P tr el with
                        | none => simp [h0, hu0, h1, hu1, hs, hz, runOp] at h
                        | some z =>
                          by_cases hcond : sizeT P el' = some n ∧ 0 < n ∧ z.length = n
                          · cases hb : bytesT P el with
                            | none => simp only [h0, hu0, h1, hu1, hs, hz, hb, Option.bind_eq_bind, Option.bind_some, if_pos hcond, Option.bind_none, Option.getD_none] at h; simp [runOp] at h
                            | some bytes =>
                              simp only [h0, hu0, h1, hu1, hs, hz, hb, Option.bind_eq_bind, Option.bind_some, if_pos hcond, Option.getD_some, runOp, Option.map_eq_some_iff] at h
                              obtain ⟨⟨r, s1⟩, h, h'⟩ := h
                              injection h' with q1 q2; subst q2
                              obtain ⟨u, ρ', w', e1, e2, e3, e4⟩ := append_spec (ty := o.type) hS hu0 hu1 hs hb hz hcond.2.2 hcond.2.1 (hop x) (hop y) h
                              refine .val (x := Builtin.append_ c.argTypes o.type (c.args.map a.eval)) (by rw [hexec]; rfl) (w' := w') (v := u) ?_ ⟨K, ρ', e2, e3, e4⟩ q1.symm
                              rw [append_congr h0 h1, ha]
                              exact e1
                          · simp only [h0, hu0, h1, hu1, hs, hz, Option.bind_eq_bind, Option.bind_some, if_neg hcond, Option.getD_none] at h; simp [runOp] at h
                    | _ => simp [h0, hu0, h1, hu1, runOp] at h
              | _ => simp [h0, hu0, runOp] at h
        · simp [runOp] at h
      | max =>
        simp only [compOp, ho, hc, Option.getD_some, runOp, ints] at h
        cases hx : c.args.toList with
        | nil => simp [hx] at h
        | cons x xs =>
          simp only [hx, List.map_cons, Option.map_eq_some_iff] at h
          obtain ⟨r, h, h'⟩ := h
          injection h' with h1 h2
          obtain ⟨z, e1, e2⟩ := minmax_spec (P := P) (f := Builtin.max2) (fun k p q w => by simp [Builtin.max2]) _ _ _ _ r (hop x) (opds_spec htr he xs) h w
          refine .pure (x := Builtin.max_ c.argTypes o.type (c.args.map a.eval)) hS (by rw [hexec]; rfl) ?_ e2 h1.symm h2
          rw [hargs _ hx]
          simpa [Builtin.max_] using e1
      | min =>
        simp only [compOp, ho, hc, Option.getD_some, runOp, ints] at h
        cases hx : c.args.toList with
        | nil => simp [hx] at h
        | cons x xs =>
          simp only [hx, List.map_cons, Option.map_eq_some_iff] at h
          obtain ⟨r, h, h'⟩ := h
          injection h' with h1 h2
          obtain ⟨z, e1, e2⟩ := minmax_spec (P := P) (f := Builtin.min2) (fun k p q w => by simp [Builtin.min2]) _ _ _ _ r (hop x) (opds_spec htr he xs) h w
          refine .pure (x := Builtin.min_ c.argTypes o.type (c.args.map a.eval)) hS (by rw [hexec]; rfl) ?_ e2 h1.symm h2
          rw [hargs _ hx]
          simpa [Builtin.min_] using e1
      | clear =>
        simp only [compOp, ho, hc] at h
        split at h
        · rename_i x hx
          have ha := hargs _ hx
          cases h0 : c.argTypes[0]? with
          | none => simp [h0, runOp] at h
          | some t0 =>
            cases hu0 : P.underlying t0 with
            | none => simp [h0, hu0, runOp] at h
            | some d0 =>
              cases d0 with
              | slice el =>
                cases hz : zeroT P tr el with
                | none => simp [h0, hu0, hz, runOp] at h
                | some z =>
                  by_cases hcond : sizeT P el = some z.length ∧ 0 < z.length
                  · simp only [h0, hu0, hz, Option.bind_eq_bind, Option.bind_some, if_pos hcond, Option.getD_some, runOp, Option.map_eq_some_iff] at h
                    obtain ⟨s1, h, h'⟩ := h
                    injection h' with q1 q2; subst q2
                    obtain ⟨w', e1, e2, e3⟩ := clear_spec (esz := 0) (ty := o.type) htr hS h0 hu0 hz hcond.2 (hop x) h
                    refine .val (x := Builtin.clear_ c.argTypes o.type (c.args.map a.eval)) (by rw [hexec]; rfl) (w' := w') (v := .tuple #[]) ?_ ⟨K, ρ, e2, e3, rv_skip⟩ q1.symm
                    rw [ha]; exact e1
                  · simp only [h0, hu0, hz, Option.bind_eq_bind, Option.bind_some, if_neg hcond, Option.getD_none] at h; simp [runOp] at h
              | _ => simp [h0, hu0, runOp] at h
        · simp [runOp] at h
      | _ => simp [compOp, ho, hc, runOp] at h
  | _ => simp [compOp, ho, runOp] at h

/-! ### Calls -/
/-- An operation, carried out to its end. -/
def ExecOK (P : Program) (o : Oper) (η : Operand → Value) (w : World) (R : Value → World → Prop) : Prop :=
  match (execOp η o).run P w with
  | .ok (.value v) w' => R v w'
  | .ok .skip w' => R undef w'
  | .ok (.enter f args) w' => CallsIn Fence.wide 0 P f args w' fun e w'' => ∃ v, e = .returned v ∧ R v w''
  | .ok (.round l f tmps assign body) w' => RoundIn Fence.wide 0 P l f tmps assign body w' fun e w'' => ∃ v, e = .returned v ∧ R v w''
  | _ => False
theorem Ran.exec {η : Operand → Value} {R : Value → World → Prop} (h : Ran P o η w R) : ExecOK P o η w R := by
  unfold ExecOK
  rcases h with ⟨v, w', h, hr⟩ | ⟨w', h, hr⟩ <;> rw [h] <;> exact hr
/-- The functions that may be called have bodies. -/
def FnOK (P : Program) (fo : Nat → Option FuncId) : Prop := ∀ f g, fo f = some g → ∃ fn, P.funcs[g]? = some fn ∧ (fn.name == "runtime.NumGoroutine") = false ∧ fn.body.isNone = false
theorem run_callFunc (hf : FnOK P fo) {f : Nat} {g : FuncId} (h : fo f = some g) (args : Array Value) : (callFunc g args).run P w = .ok (.enter g args) w := by
  obtain ⟨fn, h1, h2, h3⟩ := hf f g h
  have h2' : fn.name ≠ "runtime.NumGoroutine" := by simpa using h2
  have h3' : fn.body ≠ none := by intro hh; rw [hh] at h3; cases h3
  simp [callFunc, Sem.run_bind, program, Sem.run, h1, h2', h3']
theorem called_exec (hf : FnOK P fo) {c : Call} {f : Operand} {η : Operand → Value} {t : Tgt} {x y : List V} {q : V} {r : V} (hop : o.op = .call c) (hc : c.callee = .value f) (hq : RV fo K ρ (vo s) q (η f)) (ht : target q = some (t, x, y)) (hargs : RVs fo K ρ (vo s) (ints tr c.args |>.map (ev e)) (c.args.map η).toList)
    (h : ∀ vargs : Array Value, RVs fo K ρ (vo s) (x ++ (ints tr c.args).map (ev e) ++ y) vargs.toList → Called P fo ρ t vargs w (Done P fo base K ρ s w r s')) : ExecOK P o η w (After P fo base K ρ s w r s') := by
  have done : ∀ e w', Done P fo base K ρ s w r s' e w' → ∃ v, e = .returned v ∧ After P fo base K ρ s w r s' v w' := fun e w' ⟨v, K', ρ', h1, h2, h3, h4⟩ => ⟨v, h1, K', ρ', h2, h3, h4⟩
  have fn : ∀ (k : Nat) (g : FuncId) (va vb : Array Value), fo k = some g → t = .fn k → η f = .func (.func g) va vb → RVs fo K ρ (vo s) x va.toList → RVs fo K ρ (vo s) y vb.toList → ExecOK P o η w (After P fo base K ρ s w r s') := fun k g va vb hk ht hv h1 h2 => by
    subst ht
    have hcall := h (va ++ c.args.map η ++ vb) (by simp only [Array.toList_append]; exact (h1.append hargs).append h2) g hk
    have hrun : (execOp η o).run P w = .ok (.enter g (va ++ c.args.map η ++ vb)) w := by
      simp only [execOp, hop, resolve, hc, hv, Deferred.ofValue, Sem.run_bind, Sem.run_pure, Result.andThen_ok, invoke, run_callFunc hf hk]
    unfold ExecOK
    rw [hrun]
    exact hcall.mono done
  generalize hηf : η f = vf at hq fn
  cases q with
  | d z =>
    cases z with
    | func k p q =>
      simp only [target] at ht
      injection ht with ht; injection ht with t1 t2; injection t2 with t2 t3; subst t2; subst t3
      cases hq with | d _ _ hq =>
      cases hq with | func _ g _ _ va vb hk h1 h2 =>
      exact fn k g va vb hk t1.symm rfl (.of_d h1) (.of_d h2)
    | _ => simp [target] at ht
  | func k p q =>
    simp only [target] at ht
    injection ht with ht; injection ht with t1 t2; injection t2 with t2 t3; subst t2; subst t3
    cases hq with | func _ g _ _ va vb hk h1 h2 =>
    exact fn k g va vb hk t1.symm rfl h1 h2
  | yield id =>
    simp only [target] at ht
    injection ht with ht; injection ht with t1 t2; injection t2 with t2 t3; subst t1; subst t2; subst t3
    cases hq with | yield _ v hv =>
    obtain ⟨l, h1, h2, h3⟩ := h (c.args.map η) (by simpa using hargs)
    have hrun : (execOp η o).run P w = .ok (.round (ρ id).1 l.fn ((l.params.zip (c.args.map η)).foldl (fun tmps (t, a) => tmps.setIfInBounds t a) l.tmps) l.assign l.body) w := by
      simp only [execOp, hop, resolve, hc, hηf, Deferred.ofValue, Sem.run_bind, Sem.run_pure, Result.andThen_ok, invoke, Array.empty_append]
      exact run_yield h1 h2
    unfold ExecOK
    rw [hrun]
    exact h3.mono done
  | _ => simp [target] at ht
/-- One operation and its compiled form. -/
theorem sim_op (hf : FnOK P fo) (hcall : CallOK P fo base call) (htr : ∀ g f, tr g = some f → fo f = some g) (hS : RS P fo base K ρ s w) (he : RE fo K ρ (vo s) e a.tmps) (h : runOp call flags b0 (compOp P tr mu slot o).1 e s = some (res, s')) :
    ExecOK P o a.eval w (After P fo base K ρ s w (resV res) s') := by
  by_cases hno : ∀ c f, o.op = .call c → c.callee ≠ .value f
  · exact (sim_plain htr hS he hno h).exec
  · have : ∃ c f, o.op = .call c ∧ c.callee = .value f := by
      apply Classical.byContradiction
      intro hh
      exact hno fun c f h1 h2 => hh ⟨c, f, h1, h2⟩
    obtain ⟨c, f, hop, hc⟩ := this
    have hargs : RVs fo K ρ (vo s) ((ints tr c.args).map (ev e)) (c.args.map a.eval).toList := by
      rw [Array.toList_map]; exact opds_spec htr he c.args.toList
    have hq : RV fo K ρ (vo s) (ev e (opd tr f)) (a.eval f) := opd_spec htr he f
    have viaV : ∀ fo', f = fo' → runOp call flags b0 (.callv (opd tr f) (ints tr c.args)) e s = some (res, s') → ExecOK P o a.eval w (After P fo base K ρ s w (resV res) s') := fun _ _ hv0 => by
      simp only [runOp] at hv0
      split at hv0 <;> try (cases hv0; done)
      rename_i t x y ht
      simp only [Option.map_eq_some_iff] at hv0
      obtain ⟨⟨r, s1⟩, hv0, h'⟩ := hv0
      injection h' with h1 h2; subst h1; subst h2
      exact called_exec hf hop hc hq ht hargs fun vargs hv => callOut_spec hcall hS hv hv0
    cases hfe : f with
    | func g =>
      subst hfe
      simp only [compOp, hop, hc] at h
      cases hg : tr g with
      | none => simp [hg, runOp] at h
      | some k =>
        simp only [hg, Option.map_some, Option.getD_some, runOp, Option.map_eq_some_iff] at h
        obtain ⟨⟨r, s1⟩, h, h'⟩ := h
        injection h' with h1 h2; subst h1; subst h2
        have hqe : ev e (opd tr (.func g)) = .d (.func k [] []) := by simp [opd, hg, ev]
        rw [hqe] at hq
        refine called_exec (x := []) (y := []) (t := .fn k) hf hop hc hq rfl hargs fun vargs hv => callOut_spec (flags := flags k) hcall hS hv ?_
        rw [List.nil_append, List.append_nil]
        exact h
    | _ =>
      subst hfe
      simp only [compOp, hop, hc, Option.getD_some] at h
      exact viaV _ rfl h
end
end Go.Proofs.YtboekhenldifhaaGreat
