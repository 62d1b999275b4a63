/- The machine laid out for evaluation: equality, operations, code, calls. -/
import Derived.Test.YtboekhenldifhaaGreatZvFa
set_option linter.unusedSimpArgs false
set_option linter.unusedVariables false
namespace Go.Proofs.YtboekhenldifhaaGreat
noncomputable section
/-! ### Equality -/
def kindN (k : IntKind) : Nat := match k with | .i8 => 0 | .i16 => 1 | .i32 => 2 | .i64 => 3 | .u8 => 4 | .u16 => 5 | .u32 => 6 | .u64 => 7
theorem kindN_inj {a b : IntKind} (h : Nat.beq (kindN a) (kindN b) = true) : a = b := by cases a <;> cases b <;> first | rfl | (exact absurd h (by decide))
theorem kindN_ne {a b : IntKind} (h : Nat.beq (kindN a) (kindN b) = false) : a ≠ b := by rintro rfl; simp at h
def eqI (a b : Int) : Bool := match a, b with | .ofNat a, .ofNat b => Nat.beq a b | .negSucc a, .negSucc b => Nat.beq a b | _, _ => false
theorem eqI_iff {a b : Int} : eqI a b = true ↔ a = b := by
  cases a <;> cases b <;> simp [eqI] <;> omega
theorem eqI_eq (a b : Int) : eqI a b = (a == b) := by
  rw [Bool.eq_iff_iff, eqI_iff]; simp
def dBool (b : Bool) (y : D) : Bool := match y with | .bool b' => b == b' | _ => false
def dInt (k : IntKind) (n : Int) (y : D) : Bool := match y with | .int k' n' => Nat.beq (kindN k) (kindN k') && eqI n n' | _ => false
def dStr (s : ByteArray) (y : D) : Bool := beqD (.str s) y
def dNilp (y : D) : Bool := match y with | .nilp => true | _ => false
def dNilf (y : D) : Bool := match y with | .nilf => true | _ => false
def dNilm (y : D) : Bool := match y with | .nilm => true | _ => false
def dNili (y : D) : Bool := match y with | .nili => true | _ => false
def dSlice (r : List D → Bool) (y : D) : Bool := match y with | .slice es => r es | _ => false
def dIptr (o : Nat) (r : List D → Bool) (y : D) : Bool := match y with | .iptr es o' => Nat.beq o o' && r es | _ => false
def dAgg (r : List D → Bool) (y : D) : Bool := match y with | .agg es => r es | _ => false
def dTuple (r : List D → Bool) (y : D) : Bool := match y with | .tuple es => r es | _ => false
def dFunc (f : Nat) (r q : List D → Bool) (y : D) : Bool := match y with | .func g a b => Nat.beq f g && (r a && q b) | _ => false
def lNil {α : Type} (l : List α) : Bool := match l with | [] => true | _ :: _ => false
def lCons {α : Type} (r : α → Bool) (q : List α → Bool) (l : List α) : Bool := match l with | [] => false | y :: ys => r y && q ys
def beqDF : D → D → Bool := @D.rec (fun _ => D → Bool) (fun _ => List D → Bool) dBool dInt dStr dNilp dNilf dNilm dNili (fun _ r => dSlice r) (fun _ o r => dIptr o r) (fun _ r => dAgg r) (fun _ r => dTuple r) (fun f _ _ r q => dFunc f r q) lNil (fun _ _ r q => lCons r q)
def beqDsF : List D → List D → Bool := @D.rec_1 (fun _ => D → Bool) (fun _ => List D → Bool) dBool dInt dStr dNilp dNilf dNilm dNili (fun _ r => dSlice r) (fun _ o r => dIptr o r) (fun _ r => dAgg r) (fun _ r => dTuple r) (fun f _ _ r q => dFunc f r q) lNil (fun _ _ r q => lCons r q)
mutual
theorem beqDF_ok : ∀ {a b : D}, beqDF a b = true → a = b
  | .bool a, b, h => by
    replace h : dBool a b = true := h
    cases b <;> simp_all [dBool]
  | .int k n, b, h => by
    replace h : dInt k n b = true := h
    cases b <;> simp only [dInt, Bool.false_eq_true, Bool.and_eq_true] at h
    rw [kindN_inj h.1, eqI_iff.1 h.2]
  | .str s, b, h => beqD_eq h
  | .nilp, b, h => by
    replace h : dNilp b = true := h
    cases b <;> simp_all [dNilp]
  | .nilf, b, h => by
    replace h : dNilf b = true := h
    cases b <;> simp_all [dNilf]
  | .nilm, b, h => by
    replace h : dNilm b = true := h
    cases b <;> simp_all [dNilm]
  | .nili, b, h => by
    replace h : dNili b = true := h
    cases b <;> simp_all [dNili]
  | .slice es, b, h => by
    replace h : dSlice (beqDsF es) b = true := h
    cases b <;> simp only [dSlice, Bool.false_eq_true] at h
    rw [beqDsF_ok h]
  | .iptr es o, b, h => by
    replace h : dIptr o (beqDsF es) b = true := h
    cases b <;> simp only [dIptr, Bool.false_eq_true, Bool.and_eq_true, Nat.beq_eq] at h
    rw [h.1, beqDsF_ok h.2]
  | .agg es, b, h => by
    replace h : dAgg (beqDsF es) b = true := h
    cases b <;> simp only [dAgg, Bool.false_eq_true] at h
    rw [beqDsF_ok h]
  | .tuple es, b, h => by
    replace h : dTuple (beqDsF es) b = true := h
    cases b <;> simp only [dTuple, Bool.false_eq_true] at h
    rw [beqDsF_ok h]
  | .func f x y, b, h => by
    replace h : dFunc f (beqDsF x) (beqDsF y) b = true := h
    cases b <;> simp only [dFunc, Bool.false_eq_true, Bool.and_eq_true, Nat.beq_eq] at h
    rw [h.1, beqDsF_ok h.2.1, beqDsF_ok h.2.2]
theorem beqDsF_ok : ∀ {a b : List D}, beqDsF a b = true → a = b
  | [], b, h => by
    replace h : lNil b = true := h
    cases b <;> simp_all [lNil]
  | x :: xs, b, h => by
    replace h : lCons (beqDF x) (beqDsF xs) b = true := h
    cases b <;> simp only [lCons, Bool.false_eq_true, Bool.and_eq_true] at h
    rw [beqDF_ok h.1, beqDsF_ok h.2]
end
def vD (x : D) (y : V) : Bool := match y with | .d y => beqDF x y | _ => false
def vNils (y : V) : Bool := match y with | .nils => true | _ => false
def vEmp (y : V) : Bool := match y with | .emp => true | _ => false
def vNon (y : V) : Bool := match y with | .non => true | _ => false
def vPoison (y : V) : Bool := match y with | .poison => true | _ => false
def vLit (x : List D) (y : V) : Bool := match y with | .lit y => beqDsF x y | _ => false
def vPtr (a b c d : Nat) (y : V) : Bool := match y with | .ptr a' b' c' d' => Nat.beq a a' && (Nat.beq b b' && (Nat.beq c c' && Nat.beq d d')) | _ => false
def vMs (a b c d : Nat) (y : V) : Bool := match y with | .ms a' b' c' d' => Nat.beq a a' && (Nat.beq b b' && (Nat.beq c c' && Nat.beq d d')) | _ => false
def vAsl (a b c d e : Nat) (y : V) : Bool := match y with | .asl a' b' c' d' e' => Nat.beq a a' && (Nat.beq b b' && (Nat.beq c c' && (Nat.beq d d' && Nat.beq e e'))) | _ => false
def vAgg (r : List V → Bool) (y : V) : Bool := match y with | .agg es => r es | _ => false
def vTuple (r : List V → Bool) (y : V) : Bool := match y with | .tuple es => r es | _ => false
def vFunc (f : Nat) (r q : List V → Bool) (y : V) : Bool := match y with | .func g a b => Nat.beq f g && (r a && q b) | _ => false
def vMap (a : Nat) (y : V) : Bool := match y with | .map b => Nat.beq a b | _ => false
def vNo (_ : Nat) (_ : V) : Bool := false
def beqVF : V → V → Bool := @V.rec (fun _ => V → Bool) (fun _ => List V → Bool) vPoison vD vNils vEmp vNon vLit vPtr vMs vAsl (fun _ r => vAgg r) (fun _ r => vTuple r) (fun f _ _ r q => vFunc f r q) vMap vNo lNil (fun _ _ r q => lCons r q)
def beqVsF : List V → List V → Bool := @V.rec_1 (fun _ => V → Bool) (fun _ => List V → Bool) vPoison vD vNils vEmp vNon vLit vPtr vMs vAsl (fun _ r => vAgg r) (fun _ r => vTuple r) (fun f _ _ r q => vFunc f r q) vMap vNo lNil (fun _ _ r q => lCons r q)
mutual
theorem beqVF_ok : ∀ {a b : V}, beqVF a b = true → a = b
  | .poison, b, h => by
    replace h : vPoison b = true := h
    cases b <;> simp_all [vPoison]
  | .d x, b, h => by
    replace h : vD x b = true := h
    cases b <;> simp only [vD, Bool.false_eq_true] at h
    rw [beqDF_ok h]
  | .nils, b, h => by
    replace h : vNils b = true := h
    cases b <;> simp_all [vNils]
  | .emp, b, h => by
    replace h : vEmp b = true := h
    cases b <;> simp_all [vEmp]
  | .non, b, h => by
    replace h : vNon b = true := h
    cases b <;> simp_all [vNon]
  | .lit x, b, h => by
    replace h : vLit x b = true := h
    cases b <;> simp only [vLit, Bool.false_eq_true] at h
    rw [beqDsF_ok h]
  | .ptr a1 a2 a3 a4, b, h => by
    replace h : vPtr a1 a2 a3 a4 b = true := h
    cases b <;> simp_all [vPtr]
  | .ms a1 a2 a3 a4, b, h => by
    replace h : vMs a1 a2 a3 a4 b = true := h
    cases b <;> simp_all [vMs]
  | .asl a1 a2 a3 a4 a5, b, h => by
    replace h : vAsl a1 a2 a3 a4 a5 b = true := h
    cases b <;> simp_all [vAsl]
  | .map a, b, h => by
    replace h : vMap a b = true := h
    cases b <;> simp_all [vMap]
  | .yield a, b, h => by cases h
  | .agg es, b, h => by
    replace h : vAgg (beqVsF es) b = true := h
    cases b <;> simp only [vAgg, Bool.false_eq_true] at h
    rw [beqVsF_ok h]
  | .tuple es, b, h => by
    replace h : vTuple (beqVsF es) b = true := h
    cases b <;> simp only [vTuple, Bool.false_eq_true] at h
    rw [beqVsF_ok h]
  | .func f x y, b, h => by
    replace h : vFunc f (beqVsF x) (beqVsF y) b = true := h
    cases b <;> simp only [vFunc, Bool.false_eq_true, Bool.and_eq_true, Nat.beq_eq] at h
    rw [h.1, beqVsF_ok h.2.1, beqVsF_ok h.2.2]
theorem beqVsF_ok : ∀ {a b : List V}, beqVsF a b = true → a = b
  | [], b, h => by
    replace h : lNil b = true := h
    cases b <;> simp_all [lNil]
  | x :: xs, b, h => by
    replace h : lCons (beqVF x) (beqVsF xs) b = true := h
    cases b <;> simp only [lCons, Bool.false_eq_true, Bool.and_eq_true] at h
    rw [beqVF_ok h.1, beqVsF_ok h.2]
end
def beqRF : List (List V) → List (List V) → Bool := List.rec lNil (fun x _ r => lCons (beqVsF x) r)
theorem beqRF_ok : ∀ {a b : List (List V)}, beqRF a b = true → a = b
  | [], b, h => by
    replace h : lNil b = true := h
    cases b <;> simp_all [lNil]
  | x :: xs, b, h => by
    replace h : lCons (beqVsF x) (beqRF xs) b = true := h
    cases b <;> simp only [lCons, Bool.false_eq_true, Bool.and_eq_true] at h
    rw [beqVsF_ok h.1, beqRF_ok h.2]
def beqBF (a b : Option Blk) : Bool := match a, b with
  | none, none => true
  | some (.rows v ro e els), some (.rows v' ro' e' els') => Nat.beq v v' && ((ro == ro') && (Nat.beq e e' && beqRF els els'))
  | some (.map a), some (.map b) => beqM a b
  | _, _ => false
theorem beqBF_ok {a b : Option Blk} (h : beqBF a b = true) : a = b := by
  unfold beqBF at h
  split at h
  · rfl
  · simp only [Bool.and_eq_true, Nat.beq_eq, beq_iff_eq] at h
    obtain ⟨rfl, rfl, rfl, h⟩ := h
    rw [beqRF_ok h]
  · rw [beqM_eq h]
  · cases h
def beqSF : Store → Store → Bool := List.rec lNil (fun x _ r => lCons (beqBF x) r)
theorem beqSF_ok : ∀ {a b : Store}, beqSF a b = true → a = b
  | [], b, h => by
    replace h : lNil b = true := h
    cases b <;> simp_all [lNil]
  | x :: xs, b, h => by
    replace h : lCons (beqBF x) (beqSF xs) b = true := h
    cases b <;> simp only [lCons, Bool.false_eq_true, Bool.and_eq_true] at h
    rw [beqBF_ok h.1, beqSF_ok h.2]
/-! ### Numbers -/
def maxN (k : IntKind) : Nat := match k with | .i8 => 127 | .i16 => 32767 | .i32 => 2147483647 | .i64 => 9223372036854775807 | .u8 => 255 | .u16 => 65535 | .u32 => 4294967295 | .u64 => 18446744073709551615
def wrapF (k : IntKind) (x : Int) : Int := match x with | .ofNat n => (bif Nat.ble n (maxN k) then x else k.wrap x) | .negSucc _ => k.wrap x
theorem wrapF_eq (k : IntKind) (x : Int) : wrapF k x = k.wrap x := by
  cases x with
  | negSucc n => rfl
  | ofNat n =>
    simp only [wrapF]
    cases h : Nat.ble n (maxN k) with
    | false => rfl
    | true =>
      rw [Nat.ble_eq] at h
      simp only [cond_true, IntKind.wrap]
      cases k <;> simp only [maxN, IntKind.bits, IntKind.signed] at h ⊢ <;> simp <;> omega
def getI (v : V) : Option (IntKind × Int) := match v with | .d (.int k n) => some (k, n) | _ => none
theorem getI_eq {v : V} {k : IntKind} {n : Int} (h : getI v = some (k, n)) : v = .d (.int k n) := by
  unfold getI at h
  split at h
  · injection h with h; injection h with h1 h2; rw [h1, h2]
  · cases h
def ltI (a b : Int) : Bool := match a, b with | .ofNat a, .ofNat b => Nat.blt a b | .negSucc _, .ofNat _ => true | .ofNat _, .negSucc _ => false | .negSucc a, .negSucc b => Nat.blt b a
theorem ltI_eq (a b : Int) : ltI a b = decide (a < b) := by
  cases a <;> cases b <;> simp only [ltI] <;> rw [Bool.eq_iff_iff] <;> simp <;> omega
abbrev BinF := IntKind → Int → Int → Option D
def bAdd : BinF := fun k a b => some (.int k (wrapF k (a + b)))
def bSub : BinF := fun k a b => some (.int k (wrapF k (a - b)))
def bMul : BinF := fun k a b => some (.int k (wrapF k (a * b)))
def bEql : BinF := fun _ a b => some (.bool (eqI a b))
def bNeq : BinF := fun _ a b => some (.bool (!eqI a b))
def bLss : BinF := fun _ a b => some (.bool (ltI a b))
def bLeq : BinF := fun _ a b => some (.bool (!ltI b a))
def bGtr : BinF := fun _ a b => some (.bool (ltI b a))
def bGeq : BinF := fun _ a b => some (.bool (!ltI a b))
def bAny (op : BinOp) : BinF := fun k a b => binInt op k a b
def binIF (op : BinOp) : BinF := @BinOp.casesOn (fun _ => BinF) op bAdd bSub bMul (bAny .quo) (bAny .rem) (bAny .and) (bAny .or) (bAny .xor) (bAny .shl) (bAny .shr) (bAny .andNot) bEql bNeq bLss bLeq bGtr bGeq
theorem not_lt (a b : Int) : (!decide (a < b)) = decide (b ≤ a) := by rw [Bool.eq_iff_iff]; simp
theorem binIF_eq (op : BinOp) (k : IntKind) (a b : Int) : binIF op k a b = binInt op k a b := by
  cases op <;> first | rfl | (simp only [binIF, binInt, bAdd, bSub, bMul, bEql, bNeq, bLss, bLeq, bGtr, bGeq, wrapF_eq, eqI_eq, ltI_eq, not_lt]; try rfl)
def isShift (op : BinOp) : Bool := @BinOp.casesOn (fun _ => Bool) op false false false false false false false false true true false false false false false false false
def binF (op : BinOp) (cmp : Cmp) (x y : V) : Option V := match getI x, getI y with
  | some (k, a), some (k', b) => (bif isShift op then bin op cmp x y else bif Nat.beq (kindN k) (kindN k') then (binIF op k a b).map .d else none)
  | _, _ => bin op cmp x y
theorem binF_eq (op : BinOp) (cmp : Cmp) (x y : V) : binF op cmp x y = bin op cmp x y := by
  unfold binF
  split
  · rename_i k a k' b h1 h2
    rw [getI_eq h1, getI_eq h2]
    cases hs : isShift op with
    | true => rfl
    | false =>
      cases hk : Nat.beq (kindN k) (kindN k') with
      | true =>
        have := kindN_inj hk; subst this
        cases op <;> first | (simp [isShift] at hs; done) | (simp only [cond_true, cond_false, binIF_eq, bin, if_true])
      | false =>
        have := kindN_ne hk
        cases op <;> first | (simp [isShift] at hs; done) | (simp only [cond_false, bin, if_neg this])
  · rfl
end
end Go.Proofs.YtboekhenldifhaaGreat
