/- Equality of data, values and blocks, tested. -/
import Derived.Test.YtboekhenldifhaaGreatZvOps9
set_option linter.unusedSimpArgs false
set_option linter.unusedVariables false
namespace Go.Proofs.YtboekhenldifhaaGreat
open Go.RowKit
mutual
theorem beqD_eq : ∀ {a b : D}, beqD a b = true → a = b
  | .bool a, b, h => by cases b <;> simp_all [beqD]
  | .int k a, b, h => by cases b <;> simp_all [beqD]
  | .str a, b, h => by
    cases b <;> simp only [beqD] at h <;> first | (cases h; done) | skip
    rw [(MapKept.bytes_beq _ _).1 h]
  | .nilp, b, h => by cases b <;> simp_all [beqD]
  | .nilf, b, h => by cases b <;> simp_all [beqD]
  | .nilm, b, h => by cases b <;> simp_all [beqD]
  | .nili, b, h => by cases b <;> simp_all [beqD]
  | .slice a, b, h => by cases b <;> simp only [beqD] at h <;> first | (cases h; done) | rw [beqDs_eq h]
  | .iptr a i, b, h => by
    cases b <;> simp only [beqD] at h <;> first | (cases h; done) | skip
    simp only [Bool.and_eq_true, beq_iff_eq] at h
    rw [beqDs_eq h.1, h.2]
  | .agg a, b, h => by cases b <;> simp only [beqD] at h <;> first | (cases h; done) | rw [beqDs_eq h]
  | .tuple a, b, h => by cases b <;> simp only [beqD] at h <;> first | (cases h; done) | rw [beqDs_eq h]
  | .func f x y, b, h => by
    cases b <;> simp only [beqD] at h <;> first | (cases h; done) | skip
    simp only [Bool.and_eq_true, beq_iff_eq] at h
    rw [beqDs_eq h.1.2, beqDs_eq h.2, h.1.1]
theorem beqDs_eq : ∀ {a b : List D}, beqDs a b = true → a = b
  | [], b, h => by cases b <;> simp_all [beqDs]
  | x :: xs, b, h => by
    cases b <;> simp only [beqDs] at h <;> first | (cases h; done) | skip
    simp only [Bool.and_eq_true] at h
    rw [beqD_eq h.1, beqDs_eq h.2]
end
mutual
theorem beqV_eq : ∀ {a b : V}, beqV a b = true → a = b
  | .poison, b, h => by cases b <;> simp_all [beqV]
  | .d a, b, h => by cases b <;> simp only [beqV] at h <;> first | (cases h; done) | rw [beqD_eq h]
  | .nils, b, h => by cases b <;> simp_all [beqV]
  | .emp, b, h => by cases b <;> simp_all [beqV]
  | .non, b, h => by cases b <;> simp_all [beqV]
  | .lit a, b, h => by cases b <;> simp only [beqV] at h <;> first | (cases h; done) | rw [beqDs_eq h]
  | .ptr _ _ _ _, b, h => by cases b <;> simp_all [beqV]
  | .ms _ _ _ _, b, h => by cases b <;> simp_all [beqV]
  | .asl _ _ _ _ _, b, h => by cases b <;> simp_all [beqV]
  | .map _, b, h => by cases b <;> simp_all [beqV]
  | .yield _, b, h => by cases b <;> simp_all [beqV]
  | .agg a, b, h => by cases b <;> simp only [beqV] at h <;> first | (cases h; done) | rw [beqVs_eq h]
  | .tuple a, b, h => by cases b <;> simp only [beqV] at h <;> first | (cases h; done) | rw [beqVs_eq h]
  | .func f x y, b, h => by
    cases b <;> simp only [beqV] at h <;> first | (cases h; done) | skip
    simp only [Bool.and_eq_true, Nat.beq_eq] at h
    rw [beqVs_eq h.1.2, beqVs_eq h.2, h.1.1]
theorem beqVs_eq : ∀ {a b : List V}, beqVs a b = true → a = b
  | [], b, h => by cases b <;> simp_all [beqVs]
  | x :: xs, b, h => by
    cases b <;> simp only [beqVs] at h <;> first | (cases h; done) | skip
    simp only [Bool.and_eq_true] at h
    rw [beqV_eq h.1, beqVs_eq h.2]
end
theorem beqRows_eq : ∀ {a b : List (List V)}, beqRows a b = true → a = b
  | [], b, h => by cases b <;> simp_all [beqRows]
  | x :: xs, b, h => by
    cases b <;> simp only [beqRows] at h <;> first | (cases h; done) | skip
    simp only [Bool.and_eq_true] at h
    rw [beqVs_eq h.1, beqRows_eq h.2]
theorem beqM_eq : ∀ {a b : List (D × V)}, beqM a b = true → a = b
  | [], b, h => by cases b <;> simp_all [beqM]
  | x :: xs, b, h => by
    cases b <;> simp only [beqM] at h <;> first | (cases h; done) | skip
    simp only [Bool.and_eq_true] at h
    rw [Prod.ext (beqD_eq h.1.1) (beqV_eq h.1.2), beqM_eq h.2]
theorem beqB_eq {a b : Option Blk} (h : beqB a b = true) : a = b := by
  unfold beqB at h
  split at h
  · rfl
  · simp only [Bool.and_eq_true, Nat.beq_eq, beq_iff_eq] at h
    obtain ⟨⟨⟨rfl, rfl⟩, rfl⟩, h⟩ := h
    rw [beqRows_eq h]
  · rw [beqM_eq h]
  · cases h
theorem beqS_eq : ∀ {a b : Store}, beqS a b = true → a = b
  | [], b, h => by cases b <;> simp_all [beqS]
  | x :: xs, b, h => by
    cases b <;> simp only [beqS] at h <;> first | (cases h; done) | skip
    simp only [Bool.and_eq_true] at h
    rw [beqB_eq h.1, beqS_eq h.2]
end Go.Proofs.YtboekhenldifhaaGreat
