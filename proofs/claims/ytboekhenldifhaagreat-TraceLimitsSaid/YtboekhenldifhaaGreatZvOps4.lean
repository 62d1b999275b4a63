/- The operations that touch no memory, fourth part: values of the code's text, structs, extrema. -/
import Derived.Test.YtboekhenldifhaaGreatZvOps3
namespace Go.Proofs.YtboekhenldifhaaGreat
open Go.RowKit
variable {P : Program} {fo : Nat → Option FuncId} {K : Known} {ρ : Places} {vv : Nat → Option (Nat × Nat)} {w : World} {tr : FuncId → Option Nat}

theorem valS_spec (htr : ∀ g f, tr g = some f → fo f = some g) (v : Value) : RV fo K ρ vv (valS tr v) v := by
  unfold valS
  split <;> first | exact .poison _ | exact .nils | (refine .d _ _ ?_; constructor; done) | skip
  split
  · rename_i f first captured h
    simp at h
    obtain ⟨rfl, rfl⟩ := h
    split
    · rename_i k hk; exact .d _ _ (.func k f [] [] #[] #[] (htr _ _ hk) .nil .nil)
    · exact .poison _
  · exact .poison _
theorem valSs_spec (htr : ∀ g f, tr g = some f → fo f = some g) : ∀ (vs : List Value), RVs fo K ρ vv (vs.map (valS tr)) vs
  | [] => .nil
  | v :: vs => .cons _ _ _ _ (valS_spec htr v) (valSs_spec htr vs)
theorem valV_spec (htr : ∀ g f, tr g = some f → fo f = some g) (v : Value) : RV fo K ρ vv (valV tr v) v := by
  unfold valV
  split
  · exact RV.mkAgg (valSs_spec htr _)
  · exact RV.mkTuple (valSs_spec htr _)
  · exact valS_spec htr _
theorem zeroT_spec (htr : ∀ g f, tr g = some f → fo f = some g) {t : TypeId} {z : List V} (h : zeroT P tr t = some z) (w : World) : ∃ v, (zeroValue t).run P w = .ok v w ∧ RVs fo K ρ vv z v.cells.toList := by
  unfold zeroT at h
  cases hi : P.info? t with
  | none => simp [hi] at h
  | some i =>
    cases hz : i.zero with
    | none => simp [hi, hz] at h
    | some v =>
      simp [hi, hz] at h; subst h
      exact ⟨v, by simp [zeroValue, typeInfo, hi, hz], valSs_spec htr _⟩
/-- An activation's temporaries. -/
def RE (fo : Nat → Option FuncId) (K : Known) (ρ : Places) (vv : Nat → Option (Nat × Nat)) (e : Env) (tmps : Array Value) : Prop := ∀ t, RV fo K ρ vv (e t) (tmps.getD t undef)
theorem opd_spec (htr : ∀ g f, tr g = some f → fo f = some g) {e : Env} {a : Act} (he : RE fo K ρ vv e a.tmps) (x : Operand) : RV fo K ρ vv (ev e (opd tr x)) (a.eval x) := by
  cases x with
  | tmp t => exact he t
  | const v => exact valV_spec htr v
  | global g => exact .poison _
  | func f =>
    simp only [opd]
    split
    · rename_i k hk; exact .d _ _ (.func k f [] [] #[] #[] (htr _ _ hk) .nil .nil)
    · exact .poison _
theorem opds_spec (htr : ∀ g f, tr g = some f → fo f = some g) {e : Env} {a : Act} (he : RE fo K ρ vv e a.tmps) : ∀ (xs : List Operand), RVs fo K ρ vv ((xs.map (opd tr)).map (ev e)) (xs.map a.eval)
  | [] => .nil
  | x :: xs => .cons _ _ _ _ (opd_spec htr he x) (opds_spec htr he xs)

theorem run_places : ∀ (fs : List Field) (w : World), (∀ f ∈ fs, (sizeT P f.type).isSome) → ∃ ps : List (Nat × Nat), (fs.mapM fun f => do pure (f.offset, ← sizeOf f.type) : Sem (List (Nat × Nat))).run P w = .ok ps w ∧
    ps.length = fs.length ∧ ∀ (i : Nat) f n, fs[i]? = some f → sizeT P f.type = some n → ps[i]? = some (f.offset, n)
  | [], w, _ => ⟨[], by simp, rfl, by simp⟩
  | f :: fs, w, h => by
    obtain ⟨ps, h1, h2, h3⟩ := run_places fs w (fun g hg => h g (by simp [hg]))
    obtain ⟨n, hn⟩ := Option.isSome_iff_exists.1 (h f (by simp))
    refine ⟨(f.offset, n) :: ps, ?_, by simp [h2], ?_⟩
    · simp only [List.mapM_cons, Sem.run_bind, run_sizeT hn w, Result.andThen_ok, Sem.run_pure, h1]
    · intro i g m hi hm
      cases i with
      | zero => simp at hi; subst hi; rw [hn] at hm; injection hm with hm; simp [hm]
      | succ i => simp at hi; simpa using h3 i g m hi hm

theorem build_struct {t : TypeId} {fields : Array Field} {z r : List V} {parts : List (Nat × Value)} {vparts : List (Nat × Nat × V)} (htr : ∀ g f, tr g = some f → fo f = some g) (hu : P.underlying t = some (.struct fields))
    (hz : zeroT P tr t = some z) (hall : ∀ f ∈ fields.toList, (sizeT P f.type).isSome) (hl : parts.length = vparts.length)
    (hp : ∀ (k i : Nat) (v : Value), parts[k]? = some (i, v) → ∃ f n x, vparts[k]? = some (f.offset, n, x) ∧ fields[i]? = some f ∧ sizeT P f.type = some n ∧ RV fo K ρ vv x v) (h : fillCells z vparts = some r) (w : World) :
    ∃ v, (Instr.build t parts.toArray).run P w = .ok v w ∧ RV fo K ρ vv (mkAgg r) v := by
  obtain ⟨v0, h1, h2⟩ := zeroT_spec (fo := fo) (K := K) (ρ := ρ) (vv := vv) htr hz w
  obtain ⟨ps, g1, g2, g3⟩ := run_places (P := P) fields.toList w hall
  obtain ⟨cs, e1, e2⟩ := fill_spec (place := (ps.toArray[·]?)) parts vparts z v0.cells r h2 hl (fun k i v hk => by
    obtain ⟨f, n, x, a1, a2, a3, a4⟩ := hp k i v hk
    exact ⟨f.offset, n, x, a1, by simpa using g3 i f n (by simpa using a2) a3, a4⟩) h
  refine ⟨.agg cs, ?_, RV.mkAgg e2⟩
  have hm : (fields.mapM fun f => do pure (f.offset, ← sizeOf f.type) : Sem (Array (Nat × Nat))).run P w = .ok ps.toArray w := by
    rw [Array.mapM_eq_mapM_toList]
    change Sem.run P (Sem.bind (List.mapM (fun f => do pure (f.offset, ← sizeOf f.type)) fields.toList) (Sem.pure ∘ List.toArray)) w = _
    rw [Sem.run_bind', g1]
    rfl
  simp only [Instr.build, Sem.run_bind, h1, Result.andThen_ok, run_underlying hu, hm]
  generalize hq : Instr.fill _ v0.cells _ = q
  have : q = some cs := hq.symm.trans e1
  subst this
  simp
end Go.Proofs.YtboekhenldifhaaGreat
