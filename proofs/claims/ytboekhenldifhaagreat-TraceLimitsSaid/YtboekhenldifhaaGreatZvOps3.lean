/- The operations that touch no memory, third part. -/
import Derived.Test.YtboekhenldifhaaGreatZvOps2
namespace Go.Proofs.YtboekhenldifhaaGreat
open Go.RowKit
variable {P : Program} {fo : Nat → Option FuncId} {K : Known} {ρ : Places} {vv : Nat → Option (Nat × Nat)} {w : World}

theorem un_spec {op : UnOp} {x r : V} {v : Value} (hx : RV fo K ρ vv x v) (h : un op x = some r) (w : World) : ∃ z, (Op.unary op v).run P w = .ok z w ∧ RV fo K ρ vv r z := by
  unfold un at h
  split at h
  · have := hx.int_inv; subst this
    simp [binInt] at h; subst h
    exact ⟨_, by simp [Op.unary, Op.intArith], .of_int _ _⟩
  · have := hx.int_inv; subst this
    simp [binInt] at h; subst h
    exact ⟨_, by simp [Op.unary, Op.intBits], .of_int _ _⟩
  · have := hx.bool_inv; subst this
    injection h with h; subst h
    exact ⟨_, by simp [Op.unary], .of_bool _⟩
  · cases h

theorem conv_spec {s d : TypeId} {k k0 : IntKind} {k' : IntKind} {n : Int} {v : Value} (hs : P.underlying s = some (.int k0)) (hd : P.underlying d = some (.int k)) (hx : RV fo K ρ vv (.d (.int k' n)) v) (w : World) :
    (Go.convert s d v).run P w = .ok (.int k (k.wrap n)) w := by
  have := hx.int_inv; subst this
  simp [Go.convert, Sem.run_bind, run_underlying hs, run_underlying hd, Conv.intToInt]

theorem RV.ptr_inv {id ver i j : Nat} {v : Value} (h : RV fo K ρ vv (.ptr id ver i j) v) :
    ∃ a v0 e, v = .pointer (some a) ∧ vv id = some (v0, e) ∧ (v0 ≤ ver → ver = v0 ∧ a = ⟨(ρ id).1, i * e + j, none⟩) := by
  cases h with | ptr _ _ _ _ v0 e a h1 h2 => exact ⟨a, v0, e, rfl, h1, h2⟩
theorem RV.ms_inv {id ver off len : Nat} {v : Value} (h : RV fo K ρ vv (.ms id ver off len) v) :
    ∃ a n cap v0 e, v = .slice (some a) n cap ∧ vv id = some (v0, e) ∧ (v0 ≤ ver → ver = v0 ∧ a = ⟨(ρ id).1, off * e, none⟩ ∧ n = len ∧ len ≤ cap ∧ (off + cap) * e ≤ (ρ id).2) := by
  cases h with | ms _ _ _ _ v0 e a n cap h1 h2 => exact ⟨a, n, cap, v0, e, rfl, h1, h2⟩
theorem RV.asl_inv {id ver i j len : Nat} {v : Value} (h : RV fo K ρ vv (.asl id ver i j len) v) :
    ∃ a n cap v0 e, v = .slice (some a) n cap ∧ vv id = some (v0, e) ∧ (v0 ≤ ver → ver = v0 ∧ a = ⟨(ρ id).1, i * e + j, none⟩ ∧ n = len ∧ len ≤ cap) := by
  cases h with | asl _ _ _ _ _ v0 e a n cap h1 h2 => exact ⟨a, n, cap, v0, e, rfl, h1, h2⟩
theorem RV.iptr_inv {cs : List D} {off : Nat} {v : Value} (h : RV fo K ρ vv (.d (.iptr cs off)) v) :
    ∃ B o vs, v = .pointer (some ⟨B, o + off, none⟩) ∧ RDs fo K cs vs ∧ (∀ (j : Nat) v, vs[j]? = some v → K B (o + j) = some v) := by
  cases h with | d _ _ h => cases h with | iptr _ _ B o vs h1 h2 => exact ⟨B, o, vs, rfl, h1, h2⟩
theorem RV.dagg_inv {cs : List D} {v : Value} (h : RV fo K ρ vv (.d (.agg cs)) v) : ∃ vs : Array Value, v = .agg vs ∧ RDs fo K cs vs.toList := by
  cases h with | d _ _ h => cases h with | agg _ vs h1 => exact ⟨vs, rfl, h1⟩
theorem RV.dtuple_inv {cs : List D} {v : Value} (h : RV fo K ρ vv (.d (.tuple cs)) v) : ∃ vs : Array Value, v = .tuple vs ∧ RDs fo K cs vs.toList := by
  cases h with | d _ _ h => cases h with | tuple _ vs h1 => exact ⟨vs, rfl, h1⟩
theorem RV.tuple_inv {cs : List V} {v : Value} (h : RV fo K ρ vv (.tuple cs) v) : ∃ vs : Array Value, v = .tuple vs ∧ RVs fo K ρ vv cs vs.toList := by
  cases h with | tuple _ vs h1 => exact ⟨vs, rfl, h1⟩

theorem idx_spec {i : V} {v : Value} {k : Nat} (hi : RV fo K ρ vv i v) (h : idx i = some k) : ∃ q, v = .int q (k : Int) := by
  unfold idx at h
  split at h
  · rename_i q n
    split at h
    · rename_i hn
      injection h with h
      have := hi.int_inv; subst this
      exact ⟨q, by rw [← h, Int.toNat_of_nonneg hn]⟩
    · cases h
  · cases h

theorem add_addr (B o k : Nat) : (⟨B, o, none⟩ : Addr).add k = ⟨B, o + k, none⟩ := by unfold Addr.add; split <;> simp_all

theorem RV.faddr {off : Nat} {x r : V} {v : Value} (hx : RV fo K ρ vv x v) (h : faddrV off x = some r) : ∃ a, v = .pointer (some a) ∧ RV fo K ρ vv r (.pointer (some (a.add off))) := by
  unfold faddrV at h
  split at h
  · injection h with h; subst h
    obtain ⟨B, p, vs, rfl, h1, h2⟩ := hx.iptr_inv
    exact ⟨_, rfl, by rw [add_addr, Nat.add_assoc]; exact .d _ _ (.iptr _ _ B p vs h1 h2)⟩
  · injection h with h; subst h
    obtain ⟨a, v, e, rfl, h1, h2⟩ := hx.ptr_inv
    refine ⟨a, rfl, .ptr _ _ _ _ v e _ h1 fun hle => ?_⟩
    obtain ⟨r1, r2⟩ := h2 hle
    exact ⟨r1, by rw [r2, add_addr, Nat.add_assoc]⟩
  · cases h
theorem faddr_spec {t : TypeId} {fields : Array Field} {f : Field} {i n : Nat} {x r : V} {v : Value} (hu : P.underlying t = some (.struct fields)) (hf : fields[i]? = some f) (hn : sizeT P f.type = some n) (h0 : 0 < n)
    (hx : RV fo K ρ vv x v) (h : faddrV f.offset x = some r) (w : World) : ∃ z, (Instr.fieldAt t v i).run P w = .ok z w ∧ RV fo K ρ vv r z := by
  obtain ⟨a, rfl, hr⟩ := hx.faddr h
  refine ⟨_, ?_, hr⟩
  simp [Instr.fieldAt, Sem.run_bind, run_underlying hu, hf, Instr.sureAddr, fieldPlace, run_sizeT hn, show n ≠ 0 by omega]

theorem iaddrA_spec {t e : TypeId} {n k : Nat} {x i r : V} {v u : Value} (hu : P.underlying t = some (.array n e)) (hk : sizeT P e = some k) (hx : RV fo K ρ vv x v) (hi : RV fo K ρ vv i u) (h : iaddrAV n k x i = some r) (w : World) :
    ∃ z, (Instr.indexAt t v u).run P w = .ok z w ∧ RV fo K ρ vv r z := by
  unfold iaddrAV at h
  cases hq : idx i with
  | none => simp [hq] at h
  | some m =>
    obtain ⟨q, rfl⟩ := idx_spec hi hq
    simp only [hq] at h
    split at h <;> try (cases h; done)
    rename_i hm
    have hrun : ∀ a, v = .pointer (some a) → (Instr.indexAt t v (.int q (m : Int))).run P w = .ok (.pointer (some (a.add (m * k)))) w := by
      rintro a rfl
      simp [Instr.indexAt, Sem.run_bind, asIntOf, run_underlying hu, Instr.sureAddr, run_sizeT hk, hm]
    split at h
    · injection h with h; subst h
      obtain ⟨B, p, vs, rfl, h1, h2⟩ := hx.iptr_inv
      exact ⟨_, hrun _ rfl, by rw [add_addr, Nat.add_assoc]; exact .d _ _ (.iptr _ _ B p vs h1 h2)⟩
    · injection h with h; subst h
      obtain ⟨a, v, e, rfl, h1, h2⟩ := hx.ptr_inv
      refine ⟨_, hrun _ rfl, .ptr _ _ _ _ v e _ h1 fun hle => ?_⟩
      obtain ⟨r1, r2⟩ := h2 hle
      exact ⟨r1, by rw [r2, add_addr, Nat.add_assoc]⟩
    · cases h

theorem nilc_spec {x r : V} {v : Value} (hx : RV fo K ρ vv x v) (h : nilcV x = some r) : RV fo K ρ vv r v ∧ ((∃ a, v = .pointer (some a)) ∨ (∃ g a b, v = .func (.func g) a b) ∨ (∃ l, v = .func (.yield l) #[] #[])) := by
  unfold nilcV at h
  split at h <;> (try (cases h; done)) <;> injection h with h <;> subst h <;> refine ⟨hx, ?_⟩
  · cases hx with | d _ _ hx => cases hx; exact .inl ⟨_, rfl⟩
  · cases hx; exact .inl ⟨_, rfl⟩
  · cases hx with | d _ _ hx => cases hx; exact .inr (.inl ⟨_, _, _, rfl⟩)
  · cases hx; exact .inr (.inl ⟨_, _, _, rfl⟩)
  · cases hx; exact .inr (.inr ⟨_, rfl⟩)

theorem ext_spec {x : V} {i : Nat} {r : V} {v : Value} (hx : RV fo K ρ vv x v) (h : (match (generalizing := false) x with | .d (.tuple vs) => (vs[i]?).map V.d | .tuple vs => vs[i]? | _ => none) = some r) (w : World) :
    ∃ z, (Instr.extract v i).run P w = .ok z w ∧ RV fo K ρ vv r z := by
  have key : (∃ vs, x = .d (.tuple vs) ∧ (vs[i]?).map V.d = some r) ∨ (∃ vs, x = .tuple vs ∧ vs[i]? = some r) := by
    split at h
    · exact .inl ⟨_, rfl, h⟩
    · exact .inr ⟨_, rfl, h⟩
    · cases h
  rcases key with ⟨vs, rfl, h⟩ | ⟨vs, rfl, h⟩
  · obtain ⟨ws, rfl, hws⟩ := hx.dtuple_inv
    cases hq : vs[i]? with
    | none => simp [hq] at h
    | some d =>
      simp [hq] at h; subst h
      obtain ⟨z, e1, e2⟩ := hws.get hq
      exact ⟨z, by simp [Instr.extract, ← Array.getElem?_toList, e1], .d _ _ e2⟩
  · obtain ⟨ws, rfl, hws⟩ := hx.tuple_inv
    obtain ⟨z, e1, e2⟩ := hws.get h
    exact ⟨z, by simp [Instr.extract, ← Array.getElem?_toList, e1], e2⟩

/-! ### Structs put together -/
theorem RVs.splice {cs xs : List V} {vs ws : List Value} {j : Nat} (h : RVs fo K ρ vv cs vs) (h' : RVs fo K ρ vv xs ws) :
    RVs fo K ρ vv (splice cs j xs) (vs.take j ++ ws ++ vs.drop (j + ws.length)) := by
  unfold YtboekhenldifhaaGreat.splice
  rw [h'.length]
  exact ((h.take j).append h').append (h.drop _)
theorem fold_set : ∀ (vs : List Value) (off i : Nat) (cs : Array Value), off + i + vs.length ≤ cs.size →
    ((vs.zipIdx i).foldl (fun cs (p : Value × Nat) => cs.setIfInBounds (off + p.2) p.1) cs).toList = cs.toList.take (off + i) ++ vs ++ cs.toList.drop (off + i + vs.length)
  | [], off, i, cs, _ => by simp
  | v :: vs, off, i, cs, h => by
    simp only [List.zipIdx_cons, List.foldl_cons]
    rw [fold_set vs off (i + 1) _ (by simp at h ⊢; omega)]
    have e := list_seg_step cs.toList (off + i) v vs (by simp at h ⊢; omega)
    simpa [Array.toList_setIfInBounds, Nat.add_assoc] using e
theorem fill_spec {place : Nat → Option (Nat × Nat)} : ∀ (parts : List (Nat × Value)) (vparts : List (Nat × Nat × V)) (z : List V) (cells : Array Value) (r : List V),
    RVs fo K ρ vv z cells.toList → parts.length = vparts.length → (∀ (k i : Nat) (v : Value), parts[k]? = some (i, v) → ∃ off size x, vparts[k]? = some (off, size, x) ∧ place i = some (off, size) ∧ RV fo K ρ vv x v) →
    fillCells z vparts = some r → ∃ cs, Instr.fill place cells parts = some cs ∧ RVs fo K ρ vv r cs.toList
  | [], [], z, cells, r, hz, _, _, h => by
    simp [fillCells] at h; subst h
    exact ⟨cells, rfl, hz⟩
  | (i, v) :: parts, (o, n, x) :: vparts, z, cells, r, hz, hl, hp, h => by
    obtain ⟨o', n', x', h1, h2, h3⟩ := hp 0 i v (by simp)
    simp at h1; obtain ⟨rfl, rfl, rfl⟩ := h1
    simp only [fillCells] at h
    split at h <;> try (cases h; done)
    rename_i hc
    have hcs := h3.cells (by rintro rfl; simp [known] at hc)
    have hlen := hcs.length
    have hzl := hz.length
    simp only [Array.length_toList] at hlen hzl
    have hnew : RVs fo K ρ vv (splice z o x.cells) ((v.cells.zipIdx.foldl (fun cs (p : Value × Nat) => cs.setIfInBounds (o + p.2) p.1) cells)).toList := by
      rw [← Array.foldl_toList, Array.toList_zipIdx, fold_set v.cells.toList o 0 cells (by simp; omega)]
      simpa using hz.splice hcs
    obtain ⟨cs, e1, e2⟩ := fill_spec parts vparts _ _ r hnew (by simpa using hl) (fun k i v hk => by simpa using hp (k + 1) i v (by simpa using hk)) h
    refine ⟨cs, ?_, e2⟩
    simp only [Instr.fill, h2]
    rw [if_neg (by simp; omega)]
    exact e1
  | [], _ :: _, _, _, _, _, hl, _, _ => by simp at hl
  | _ :: _, [], _, _, _, _, hl, _, _ => by simp at hl
end Go.Proofs.YtboekhenldifhaaGreat
