/- The operations that touch no memory, second part. -/
import Derived.Test.YtboekhenldifhaaGreatZvOps1
namespace Go.Proofs.YtboekhenldifhaaGreat
open Go.RowKit
variable {P : Program} {fo : Nat → Option FuncId} {K : Known} {ρ : Places} {vv : Nat → Option (Nat × Nat)} {w : World}

theorem RV.int_inv {k : IntKind} {n : Int} {v : Value} (h : RV fo K ρ vv (.d (.int k n)) v) : v = .int k n := by
  cases h with | d _ _ h => cases h; rfl
theorem RV.bool_inv {b : Bool} {v : Value} (h : RV fo K ρ vv (.d (.bool b)) v) : v = .bool b := by
  cases h with | d _ _ h => cases h; rfl
theorem RV.str_inv {b : ByteArray} {v : Value} (h : RV fo K ρ vv (.d (.str b)) v) : v = .string b := by
  cases h with | d _ _ h => cases h; rfl
theorem RV.of_int (k : IntKind) (n : Int) : RV fo K ρ vv (.d (.int k n)) (.int k n) := .d _ _ (.int k n)
theorem RV.of_bool (b : Bool) : RV fo K ρ vv (.d (.bool b)) (.bool b) := .d _ _ (.bool b)

theorem binInt_spec {op : BinOp} {t : TypeId} {k : IntKind} {a b : Int} {r : D} (h : binInt op k a b = some r) (w : World) :
    ∃ v, (Go.binOp op t (.int k a) (.int k b)).run P w = .ok v w ∧ RD fo K r v := by
  unfold binInt at h
  cases op <;> simp only at h <;> (try (cases h; done)) <;> (try (injection h with h; subst h)) <;>
    (try (split at h <;> (try (cases h; done)) <;> injection h with h <;> subst h))
  all_goals (refine ⟨_, ?_, by constructor⟩; simp_all [Go.binOp, Op.intArith, Op.intDiv, Op.intBits, Op.intCmp])

theorem shiftInt_spec {op : BinOp} {t : TypeId} {k k' : IntKind} {a b : Int} {r : D} (h : shiftInt op k a b = some r) (w : World) :
    ∃ v, (Go.binOp op t (.int k a) (.int k' b)).run P w = .ok v w ∧ RD fo K r v := by
  unfold shiftInt at h
  split at h
  · cases h
  · rename_i hb
    cases op <;> simp only at h <;> (try (cases h; done)) <;> injection h with h <;> subst h <;>
      exact ⟨_, by simp [Go.binOp, Op.shift, hb], .int _ _⟩

theorem eqV_spec {t : TypeId} {x y : V} {v u : Value} {b : Bool} (hx : RV fo K ρ vv x v) (hy : RV fo K ρ vv y u) (h : eqV (cmpT P t) x y = some b) (w : World) :
    (Op.equal t v u).run P w = .ok b w ∧ (∀ xs ys, v = .agg xs ∧ u = .agg ys → P.eqGuardType P.depth t = false) ∧ ¬ (v = .nilIface ∧ u = .nilIface) ∧ refV v = true := by
  unfold eqV at h
  split at h
  · rename_i n xs ys hc
    split at h
    · rename_i hn
      cases hx with | d _ _ hx => cases hx with | agg _ vs hvs =>
      cases hy with | d _ _ hy => cases hy with | agg _ ws hws =>
      have := run_equal_flat hc hvs hws hn h w
      exact ⟨this.1, fun _ _ _ => this.2, by simp, rfl⟩
    · cases h
  · rename_i a c hc
    injection h with h; subst h
    have ha := hx.bool_inv; have hb := hy.bool_inv; subst ha; subst hb
    refine ⟨?_, by simp, by simp, rfl⟩
    have hu : P.underlying t = some .bool := by
      unfold cmpT at hc
      split at hc <;> first | assumption | (simp at hc; done) | (split at hc <;> simp at hc)
    show (Op.equalIn (9999 + 1) t _ _).run P w = _
    rw [Op.equalIn]
    simp [Sem.run_bind, run_underlying hu]
  · obtain ⟨h1, h2, h3⟩ := nilEq_spec hx hy h w
    exact ⟨h1, fun xs ys e => absurd e (h2 xs ys), h3, nilEq_ref hx h⟩

theorem run_eqGuard {op : BinOp} {t : TypeId} {x y : Operand} {v u : Value} (h1 : ∀ xs ys, v = .agg xs ∧ u = .agg ys → P.eqGuardType P.depth t = false) (h2 : ¬ (v = .nilIface ∧ u = .nilIface)) (w : World) :
    (eqGuard op t x y v u).run P w = .ok () w := by
  by_cases ha : ∃ xs ys, v = .agg xs ∧ u = .agg ys
  · obtain ⟨xs, ys, rfl, rfl⟩ := ha
    exact run_eqGuard_agg w op t x y xs ys (h1 xs ys ⟨rfl, rfl⟩)
  · cases v <;> cases u <;> first | (exact absurd ⟨_, _, rfl, rfl⟩ ha) | (exact absurd ⟨rfl, rfl⟩ h2) | (cases op <;> rfl)

theorem binOp_eql {t : TypeId} {v u : Value} (h : refV v = true) : Go.binOp .eql t v u = (do pure (.bool (← Op.equal t v u))) ∧ Go.binOp .neq t v u = (do pure (.bool (!(← Op.equal t v u)))) := by
  cases v <;> first | (simp [refV] at h; done) | (cases u <;> exact ⟨rfl, rfl⟩)

theorem bin_spec {op : BinOp} {t : TypeId} {ox oy : Operand} {x y r : V} {v u : Value} (hx : RV fo K ρ vv x v) (hy : RV fo K ρ vv y u) (h : bin op (cmpT P t) x y = some r) (w : World) :
    ∃ z, (do eqGuard op t ox oy v u; Go.binOp op t v u : Sem Value).run P w = .ok z w ∧ RV fo K ρ vv r z := by
  have fin : ∀ {q : D}, r = .d q → (∃ z, (Go.binOp op t v u).run P w = .ok z w ∧ RD fo K q z) → (∀ xs ys, ¬ (v = .agg xs ∧ u = .agg ys)) → ¬ (v = .nilIface ∧ u = .nilIface) →
      ∃ z, (do eqGuard op t ox oy v u; Go.binOp op t v u : Sem Value).run P w = .ok z w ∧ RV fo K ρ vv r z := by
    rintro q rfl ⟨z, h1, h2⟩ h3 h4
    exact ⟨z, by simp [Sem.run_bind, run_eqGuard (P := P) (op := op) (t := t) (x := ox) (y := oy) (fun xs ys e => absurd e (h3 xs ys)) h4 w, h1], .d _ _ h2⟩
  unfold bin at h
  split at h
  · rename_i k a k' b
    have := hx.int_inv; have := hy.int_inv; subst_vars
    cases hq : shiftInt .shl k a b with
    | none => simp [hq] at h
    | some q => simp [hq] at h; exact fin h.symm (shiftInt_spec hq w) (by simp) (by simp)
  · rename_i k a k' b
    have := hx.int_inv; have := hy.int_inv; subst_vars
    cases hq : shiftInt .shr k a b with
    | none => simp [hq] at h
    | some q => simp [hq] at h; exact fin h.symm (shiftInt_spec hq w) (by simp) (by simp)
  · rename_i k a k' b _ _
    have := hx.int_inv; have := hy.int_inv; subst_vars
    split at h
    · rename_i hk; subst hk
      cases hq : binInt op k a b with
      | none => simp [hq] at h
      | some q => simp [hq] at h; exact fin h.symm (binInt_spec hq w) (by simp) (by simp)
    · cases h
  · rename_i hni
    cases hq : eqV (cmpT P t) x y with
    | none => simp [hq] at h
    | some b =>
      simp [hq] at h; subst h
      obtain ⟨h1, h2, h3, h4⟩ := eqV_spec hx hy hq w
      exact ⟨_, by simp [Sem.run_bind, run_eqGuard (P := P) (op := .eql) (t := t) (x := ox) (y := oy) h2 h3 w, (binOp_eql h4).1, h1], .of_bool b⟩
  · rename_i hni
    cases hq : eqV (cmpT P t) x y with
    | none => simp [hq] at h
    | some b =>
      simp [hq] at h; subst h
      obtain ⟨h1, h2, h3, h4⟩ := eqV_spec hx hy hq w
      exact ⟨_, by simp [Sem.run_bind, run_eqGuard (P := P) (op := .neq) (t := t) (x := ox) (y := oy) h2 h3 w, (binOp_eql h4).2, h1], .of_bool (!b)⟩
  · cases h
end Go.Proofs.YtboekhenldifhaaGreat
