/- What writes memory, second part: make and append. -/
import Derived.Test.YtboekhenldifhaaGreatZvOps7
set_option linter.unusedSimpArgs false
set_option linter.unusedVariables false
namespace Go.Proofs.YtboekhenldifhaaGreat
open Go.RowKit
variable {P : Program} {fo : Nat → Option FuncId} {K : Known} {ρ : Places} {w : World} {tr : FuncId → Option Nat} {base : Nat} {s s' : Store}

theorem run_bytesT {t : TypeId} {n : Nat} (h : bytesT P t = some n) (w : World) : ∃ i, (typeInfo t).run P w = .ok i w ∧ i.bytes = n := by
  unfold bytesT at h
  cases hi : P.info? t with
  | none => simp [hi] at h
  | some i => simp [hi] at h; exact ⟨i, by simp [typeInfo, hi], h⟩
/-- Zeros, row by row. -/
theorem zeros_get {zero : Array Value} {l esz : Nat} (hz : zero.size = esz) {i j : Nat} (hi : i < l) (hj : j < esz) :
    ((Array.range (l * esz)).map (zero[· % zero.size]!))[i * esz + j]? = some zero[j]! := by
  have h1 : i * esz + j < l * esz := by
    have := Nat.mul_le_mul_right esz (show i + 1 ≤ l from hi); rw [Nat.add_mul, Nat.one_mul] at this; omega
  have h2 : (i * esz + j) % esz = j := by rw [Nat.add_comm, Nat.add_mul_mod_self_right, Nat.mod_eq_of_lt hj]
  simp [h1, hz, h2]
theorem roomy_spec {n bytes : Nat} (h : roomy n bytes = true) : (2 * n + 768) * bytes ≤ 2 ^ 47 ∧ n ≤ 2 ^ 46 := by simpa [roomy] using h
theorem wrap_small {n : Nat} (h : n < 2 ^ 62) : IntKind.i64.wrap (n : Int) = n := by
  have h1 : (n : Int) % 2 ^ 64 = n := by omega
  simp only [IntKind.wrap, IntKind.bits, IntKind.signed, h1]
  rw [if_neg]
  simp
  omega
theorem mkslice_spec (htr : ∀ g f, tr g = some f → fo f = some g) {t e : TypeId} {esz bytes l c id : Nat} {z : List V} {vl vc : Value} {xl xc : V} (hS : RS P fo base K ρ s w) (hu : P.underlying t = some (.slice e)) (hs : sizeT P e = some esz) (hb : bytesT P e = some bytes) (hz : zeroT P tr e = some z)
    (h0 : 0 < esz) (hzl : z.length = esz) (hl : RV fo K ρ (vo s) xl vl) (hc : RV fo K ρ (vo s) xc vc) (il : idx xl = some l) (ic : idx xc = some c) (hlc : l ≤ c) (hr : roomy c bytes = true) (hsc : z.all scalarV = true)
    (h : newB s id (.rows 0 false esz (zeroRows l z)) = some s') :
    ∃ u ρ' w', (Instr.makeSlice t vl vc).run P w = .ok u w' ∧ RS P fo base K ρ' s' w' ∧ Stp base K ρ s w K ρ' s' w' ∧ RV fo K ρ' (vo s') (.ms id 0 0 l) u := by
  obtain ⟨n1, n2, rfl⟩ := newB_spec h
  obtain ⟨ql, rfl⟩ := idx_spec hl il
  obtain ⟨qc, rfl⟩ := idx_spec hc ic
  obtain ⟨v, e1, e2⟩ := zeroT_spec (fo := fo) (K := K) (ρ := ρ) (vv := vo s) htr hz w
  obtain ⟨i, b1, b2⟩ := run_bytesT hb w
  obtain ⟨hr, hcl⟩ := roomy_spec hr
  have hsz : v.cells.size = esz := by rw [← hzl, e2.length]; simp
  have hbc : bytes * c ≤ 2 ^ 47 := by
    have : bytes * c ≤ (2 * c + 768) * bytes := by rw [Nat.mul_comm]; exact Nat.mul_le_mul_right _ (by omega)
    omega
  obtain ⟨h1, h2⟩ := rows_new (t := e) (c := (Array.range (c * esz)).map (v.cells[· % v.cells.size]!)) (els := zeroRows l z) (esz := esz) hS n1 n2
    (by simp [zeroRows]; exact Nat.mul_le_mul_right _ hlc) (by intro r hr; simp [zeroRows] at hr; rw [hr.2, hzl]) (fun i r hi j x hj => by
      simp only [zeroRows, List.getElem?_replicate] at hi
      split at hi <;> try (cases hi; done)
      rename_i hil
      injection hi with hi; subst hi
      obtain ⟨u, a1, a2⟩ := e2.get hj
      have hjl := (List.getElem?_eq_some_iff.1 hj).1
      refine ⟨v.cells[j]!, zeros_get hsz (by omega) (by omega), ?_⟩
      have : v.cells[j]! = u := by
        rw [Array.getElem?_toList] at a1
        simp [getElem!_def, a1]
      rw [this]
      exact ⟨a2, a2.cellV (List.all_eq_true.1 hsc x (List.mem_of_getElem? hj))⟩)
  refine ⟨.slice (some ⟨w.heap.size, 0, none⟩) l c, _, _, ?_, h1, h2, ?_⟩
  · have hw1 := wrap_small (n := l) (by omega)
    have hw2 := wrap_small (n := c) (by omega)
    have hbi : ¬ ((i.bytes : Int) * (c : Int) > 2 ^ 48) := by
      rw [b2, ← Int.natCast_mul]
      omega
    simp only [Instr.makeSlice, Sem.run_bind, run_underlying hu, Result.andThen_ok, asInt, asIntOf, Sem.run_pure, b1, hw1, hw2]
    rw [if_neg (by simp only [Bool.or_eq_true, decide_eq_true_eq]; omega)]
    have hroom : (askRoom ((c : Int).toNat * i.bytes)).run P w = .ok () w := by
      unfold askRoom
      rw [if_neg (by simp only [Int.toNat_natCast, b2, roomBytes]; rw [Nat.mul_comm]; omega)]
      rfl
    simp only [Sem.run_bind, hroom, Result.andThen_ok, run_sizeT hs, Int.toNat_natCast]
    by_cases hce : c * esz = 0
    · rw [if_pos hce]
      have h00 : Array.range 0 = #[] := rfl
      simp [newRow, hce, h00]
    · rw [if_neg hce]
      simp [Sem.run_bind, e1, newRow]
  · refine .ms _ _ _ _ 0 esz _ _ _ (by rw [vo_set n1]; simp) fun _ => ⟨rfl, by simp [placed], rfl, hlc, ?_⟩
    simp [placed]
end Go.Proofs.YtboekhenldifhaaGreat
