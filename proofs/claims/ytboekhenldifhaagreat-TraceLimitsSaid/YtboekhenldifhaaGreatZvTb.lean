/- Calls that are known already, and runs on top of them: what a run comes to if known calls answer at once. -/
import Derived.Test.YtboekhenldifhaaGreatZvWp
import Derived.Test.YtboekhenldifhaaGreatZvRun
set_option linter.unusedSimpArgs false
set_option linter.unusedVariables false
namespace Go.Proofs.YtboekhenldifhaaGreat
abbrev I (n : Nat) : D := .int .i64 (.ofNat n)
abbrev J (n : Nat) : D := .int .i64 (.negSucc n)
abbrev W (n : Nat) : D := .int .u32 (.ofNat n)
abbrev B (b : Bool) : D := .bool b
abbrev S (l : List D) : D := .slice l
abbrev A (l : List D) : D := .agg l
abbrev U (l : List D) : D := .tuple l
/-! ### More calls, more fuel -/
def CallSem.le (c c' : CallSem) : Prop := ∀ t a b x, c t a b = some x → c' t a b = some x
section
variable {c c' : CallSem} (hc : CallSem.le c c')
include hc
theorem callOut_le {t : Tgt} {fl : List Bool} {args : List V} {s : Store} {x : V × Store} (h : callOut c t fl args s = some x) : callOut c' t fl args s = some x := by
  unfold callOut at h ⊢
  split at h
  · cases h
  · unfold callIds at h ⊢
    split at h
    · rename_i h1
      rw [if_pos h1]
      split at h
      · cases h
      · rename_i t' ht
        split at h
        · cases h
        · rename_i r bs hr
          simp only [hc _ _ _ _ hr]
          exact h
    · cases h
theorem runOp_le {fl : Nat → List Bool} {b : Nat} {op : VOp} {e : Env} {s : Store} {x : Res × Store} (h : runOp c fl b op e s = some x) : runOp c' fl b op e s = some x := by
  cases op with
  | call f args =>
    simp only [runOp, Option.map_eq_some_iff] at h ⊢
    obtain ⟨y, h1, h2⟩ := h
    exact ⟨y, callOut_le hc h1, h2⟩
  | callv f args =>
    simp only [runOp] at h ⊢
    split at h
    · simp only [Option.map_eq_some_iff] at h ⊢
      obtain ⟨y, h1, h2⟩ := h
      exact ⟨y, callOut_le hc h1, h2⟩
    · cases h
  | _ => exact h
theorem runOper_le {fl : Nat → List Bool} {b : Nat} {o : VOper} {e : Env} {s : Store} {x : Env × Store} (h : runOper c fl b o e s = some x) : runOper c' fl b o e s = some x := by
  unfold runOper at h ⊢
  split at h
  · cases h
  · exact h
  · split at h
    · rename_i h1; simp only [runOp_le hc h1]; exact h
    · rename_i h1; simp only [runOp_le hc h1]; exact h
    · cases h
theorem runOps_le {fl : Nat → List Bool} {b : Nat} : ∀ {os : List VOper} {e : Env} {s : Store} {x : Env × Store}, runOps c fl b os e s = some x → runOps c' fl b os e s = some x
  | [], _, _, _, h => h
  | o :: os, e, s, x, h => by
    simp only [runOps] at h ⊢
    split at h
    · rename_i h1; simp only [runOper_le hc h1]; exact runOps_le h
    · cases h
theorem runOpsF_le {fine : Bool} {fl : Nat → List Bool} {b : Nat} : ∀ {os : List VOper} {e : Env} {s : Store} {x : Env × Store × List Foot}, runOpsF fine c fl b os e s = some x → runOpsF fine c' fl b os e s = some x
  | [], _, _, _, h => h
  | o :: os, e, s, x, h => by
    simp only [runOpsF] at h ⊢
    split at h
    · rename_i h1
      simp only [runOper_le hc h1]
      simp only [Option.map_eq_some_iff] at h ⊢
      obtain ⟨y, h2, h3⟩ := h
      exact ⟨y, runOpsF_le h2, h3⟩
    · cases h
theorem runRegion_le {fl : Nat → List Bool} {dr : Option (List (Nat × Nat))} {sl : Nat} {os : List VOper} {e : Env} {s : Store} {x : Env × Store} (h : runRegion c fl dr sl os e s = some x) : runRegion c' fl dr sl os e s = some x := by
  unfold runRegion at h ⊢
  cases dr with
  | none => exact runOps_le hc h
  | some ps =>
    simp only at h ⊢
    split at h
    · rename_i e1 s1 f1 h1
      simp only [runOpsF_le hc h1]
      split at h
      · rename_i hl; rw [if_pos hl]; exact h
      · rename_i hl
        rw [if_neg hl]
        split at h
        · rename_i h2; simp only [runOpsF_le hc h2]; exact h
        · cases h
    · cases h
theorem runRange_le {fl : Nat → List Bool} {f : V} {lv ps : List Nat} {a b : VCode} {e : Env} {s : Store} {x : Out × Env × Store} (h : runRange c fl f lv ps a b e s = some x) : runRange c' fl f lv ps a b e s = some x := by
  simp only [runRange] at h ⊢
  split at h
  · rename_i g u v ht
    split at h
    · rename_i r s2 h1; simp only [callOut_le hc h1]; exact h
    · cases h
  · cases h
end
theorem iter_le {f g : Env → Store → Option (Out × Env × Store)} (hfg : ∀ e s x, f e s = some x → g e s = some x) : ∀ {n m : Nat} {e : Env} {s : Store} {x : Out × Env × Store}, n ≤ m → iter f n e s = some x → iter g m e s = some x
  | 0, _, _, _, _, _, h => by cases h
  | n + 1, 0, _, _, _, hm, _ => by omega
  | n + 1, m + 1, e, s, x, hm, h => by
    simp only [iter] at h ⊢
    cases h1 : f e s with
    | none => rw [h1] at h; cases h
    | some y =>
      obtain ⟨o, e', s'⟩ := y
      rw [h1] at h
      rw [hfg _ _ _ h1]
      cases o with
      | normal => exact iter_le hfg (by omega) h
      | exit i => exact h
      | ret => exact h
theorem runCode_le {c c' : CallSem} (hc : CallSem.le c c') {fl : Nat → List Bool} {k n m : Nat} (hm : n ≤ m) : ∀ {a : VCode} {e : Env} {s : Store} {x : Out × Env × Store}, runCode c fl k n a e s = some x → runCode c' fl k m a e s = some x
  | .skip, _, _, _, h => h
  | .exit _, _, _, _, h => h
  | .ret, _, _, _, h => h
  | .fail, _, _, _, h => h
  | .region dr sl os, e, s, x, h => by
    simp only [runCode, Option.map_eq_some_iff] at h ⊢
    obtain ⟨y, h1, h2⟩ := h
    exact ⟨y, runRegion_le hc h1, h2⟩
  | .rangeFunc f lv ps a b, e, s, x, h => by
    simp only [runCode] at h ⊢
    exact runRange_le hc h
  | .cond t a b, e, s, x, h => by
    simp only [runCode] at h ⊢
    split at h
    · exact runCode_le hc hm h
    · exact runCode_le hc hm h
    · cases h
  | .seq a b, e, s, x, h => by
    simp only [runCode] at h ⊢
    cases h1 : runCode c fl k n a e s with
    | none => rw [h1] at h; cases h
    | some y =>
      obtain ⟨o, e', s'⟩ := y
      rw [h1] at h
      rw [runCode_le hc hm h1]
      cases o with
      | normal => exact runCode_le hc hm h
      | exit i => exact h
      | ret => exact h
  | .block id a, e, s, x, h => by
    simp only [runCode] at h ⊢
    cases h1 : runCode c fl k n a e s with
    | none => rw [h1] at h; cases h
    | some y =>
      obtain ⟨o, e', s'⟩ := y
      rw [h1] at h
      rw [runCode_le hc hm h1]
      exact h
  | .loop lv a, e, s, x, h => by
    simp only [runCode] at h ⊢
    exact iter_le (fun e s x hx => runCode_le hc hm hx) hm h
theorem runFn_le {p : VProg} {c c' : CallSem} (hc : CallSem.le c c') {n m : Nat} (hm : n ≤ m) {fn : VFun} {args : List V} {bs : Store} {x : V × Store} (h : runFn p c n fn args bs = some x) : runFn p c' m fn args bs = some x := by
  unfold runFn at h ⊢
  cases h1 : runCode c (flagsOf p) bs.length n fn.body (argEnv 0 args) bs with
  | none => rw [h1] at h; cases h
  | some y => rw [h1] at h; rw [runCode_le hc hm h1]; exact h
theorem runRound_le {p : VProg} {c c' : CallSem} (hc : CallSem.le c c') {n m : Nat} (hm : n ≤ m) {id : Nat} {args : List V} {bs : Store} {x : V × Store} (h : runRound p c n id args bs = some x) : runRound p c' m id args bs = some x := by
  unfold runRound at h ⊢
  split at h
  · split at h
    · rename_i h0
      rw [if_pos h0]
      simp only at h ⊢
      split at h
      · rename_i h1
        rw [runCode_le hc hm h1]
        simp only at h ⊢
        split at h
        · rename_i h2
          split at h
          · rename_i h3
            simp only [runCode_le hc hm h3]
            exact h
          · cases h
        · cases h
      · cases h
    · cases h
  · cases h
/-- One level of calls. -/
def callS (p : VProg) (call : CallSem) (n : Nat) : CallSem := fun t args bs =>
  match t with
  | .fn f => match p f with
    | none => none
    | some fn =>
      if fn.split then
        match args, bs with
        | .d (.slice []) :: rest, [] =>
          match runFn p call n fn (.nils :: rest) [], runFn p call n fn (.non :: rest) [] with
          | some (x, []), some (y, []) => if bare x && bare y then some (.emp, []) else match norm x, norm y with | .d a, .d b => if beqD a b then some (.d a, []) else none | _, _ => none
          | _, _ => none
        | _, _ => runFn p call n fn args bs
      else runFn p call n fn args bs
  | .round id => runRound p call n id args bs
theorem callN_succ {p : VProg} {n : Nat} : callN p (n + 1) = callS p (callN p n) n := by
  rw [callN]
  funext t args bs
  cases t <;> rfl
theorem callS_le {p : VProg} {c c' : CallSem} (hc : CallSem.le c c') {n m : Nat} (hm : n ≤ m) : CallSem.le (callS p c n) (callS p c' m) := by
  intro t args bs x h
  unfold callS at h ⊢
  cases t with
  | round id => exact runRound_le hc hm h
  | fn f =>
    simp only at h ⊢
    cases hp : p f with
    | none => rw [hp] at h; cases h
    | some fn =>
      rw [hp] at h
      simp only at h ⊢
      split at h
      · rename_i hs
        rw [if_pos hs]
        split at h
        · split at h
          · rename_i h1 h2
            simp only [runFn_le hc hm h1, runFn_le hc hm h2]
            exact h
          · cases h
        · rename_i hne
          exact runFn_le hc hm h
      · rename_i hs
        rw [if_neg hs]
        exact runFn_le hc hm h
/-! ### The table -/
structure Ent where
  f : Nat
  args : List V
  bs : Store
  r : V
  bs' : Store
inductive Tab (p : VProg) : List Ent → Prop
  | n : Tab p []
  | c {f : Nat} {a : List V} {b b' : Store} {r : V} {l : List Ent} : Ret p (.fn f) a b r b' → Tab p l → Tab p (⟨f, a, b, r, b'⟩ :: l)
def findE : List Ent → Nat → List V → Store → Option (V × Store)
  | [], _, _, _ => none
  | e :: l, f, a, b => bif Nat.beq e.f f && (beqVs e.args a && beqS e.bs b) then some (e.r, e.bs') else findE l f a b
/-- Calls, with a table. -/
def callE (p : VProg) (tab : List Ent) : Nat → CallSem
  | 0 => fun _ _ _ => none
  | n + 1 => fun t args bs =>
    match t with
    | .fn f => match findE tab f args bs with
      | some r => some r
      | none => callS p (callE p tab n) n (.fn f) args bs
    | .round id => callS p (callE p tab n) n (.round id) args bs
theorem findE_ok {p : VProg} {l : List Ent} (h : Tab p l) : ∃ m0, ∀ f a b x, findE l f a b = some x → ∀ m, m0 ≤ m → callN p m (.fn f) a b = some x := by
  induction h with
  | n => exact ⟨0, fun f a b x h => by cases h⟩
  | @c f' a' b' b2 r' l h1 _ ih =>
    unfold Ret Evt at h1
    obtain ⟨m1, h1⟩ := h1
    obtain ⟨m2, h2⟩ := ih
    refine ⟨max m1 m2, fun f a b x h m hm => ?_⟩
    simp only [findE] at h
    cases hq : (Nat.beq f' f && (beqVs a' a && beqS b' b)) with
    | false => rw [hq] at h; exact h2 f a b x h m (by omega)
    | true =>
      rw [hq] at h
      simp only [Bool.and_eq_true, Nat.beq_eq] at hq
      obtain ⟨q1, q2, q3⟩ := hq
      rw [← q1, ← beqVs_eq q2, ← beqS_eq q3]
      injection h with h
      rw [← h]
      exact h1 m (by omega)
theorem callE_ok {p : VProg} {l : List Ent} (h : Tab p l) : ∃ m0, ∀ n m, m0 + n ≤ m → CallSem.le (callE p l n) (callN p m) := by
  obtain ⟨m0, h0⟩ := findE_ok h
  refine ⟨m0, fun n => ?_⟩
  induction n with
  | zero => intro m _ t a b x hx; cases hx
  | succ n ih =>
    intro m hm t a b x hx
    obtain ⟨m, rfl⟩ : ∃ i, m = i + 1 := ⟨m - 1, by omega⟩
    cases t with
    | round id =>
      rw [callN_succ]
      exact callS_le (ih m (by omega)) (by omega) _ _ _ _ hx
    | fn f =>
      simp only [callE] at hx
      split at hx
      · rename_i r hr
        injection hx with hx; subst hx
        exact h0 _ _ _ _ hr _ (by omega)
      · rw [callN_succ]
        exact callS_le (ih m (by omega)) (by omega) _ _ _ _ hx
def isRes (x : Option (V × Store)) (r : V) (bs : Store) : Bool := match x with | some (y, s) => beqV r y && beqS bs s | none => false
/-- A call on top of known ones. -/
theorem tb {p : VProg} {l : List Ent} (h : Tab p l) {n f : Nat} {a : List V} {b b' : Store} {r : V} (hx : isRes (callE p l n (.fn f) a b) r b' = true) : Ret p (.fn f) a b r b' := by
  obtain ⟨m0, h0⟩ := callE_ok h
  unfold isRes at hx
  split at hx
  · rename_i y s he
    simp only [Bool.and_eq_true] at hx
    rw [beqV_eq hx.1, beqS_eq hx.2]
    unfold Ret Evt
    exact ⟨m0 + n, fun m hm => h0 n m hm _ _ _ _ he⟩
  · cases hx
/-! ### Code on top of known calls -/
/-- The frames, run. -/
def runK (call : CallSem) (flags : Nat → List Bool) (k fuel : Nat) : List Fr → Out → Env → Store → Option (Out × Env × Store)
  | [], o, e, s => some (o, e, s)
  | .seq b :: K, o, e, s => match o with
    | .normal => match runCode call flags k fuel b e s with
      | some (o, e, s) => runK call flags k fuel K o e s
      | none => none
    | .exit i => runK call flags k fuel K (.exit i) e s
    | .ret => runK call flags k fuel K .ret e s
  | .block id :: K, o, e, s => match o with
    | .normal => runK call flags k fuel K .normal e s
    | .exit i => runK call flags k fuel K (if i = id then .normal else .exit i) e s
    | .ret => runK call flags k fuel K .ret e s
  | .loop live a :: K, o, e, s => match o with
    | .normal => match runCode call flags k fuel (.loop live a) e s with
      | some (o, e, s) => runK call flags k fuel K o e s
      | none => none
    | .exit i => runK call flags k fuel K (.exit i) e s
    | .ret => runK call flags k fuel K .ret e s
theorem run_of {p : VProg} {l : List Ent} (hT : Tab p l) {k n : Nat} {c : VCode} {e e' : Env} {s s' : Store} {o : Out} {Q : Out → Env → Store → Prop} (h : runCode (callE p l n) (flagsOf p) k n c e s = some (o, e', s')) (hq : Q o e' s') : Run p k c e s Q := by
  obtain ⟨m0, h0⟩ := callE_ok hT
  unfold Run Evt
  exact ⟨o, e', s', hq, m0 + n, fun m hm => runCode_le (h0 n m hm) (by omega) h⟩
theorem loop_of {p : VProg} {l : List Ent} (hT : Tab p l) {k n : Nat} {lv : List Nat} {c : VCode} {e e' : Env} {s s' : Store} {o : Out} {Q : Out → Env → Store → Prop} (h : runCode (callE p l n) (flagsOf p) k n (.loop lv c) e s = some (o, e', s')) (hq : Q o e' s') : Loop p k lv c e s Q := by
  obtain ⟨m0, h0⟩ := callE_ok hT
  unfold Loop Evt
  refine ⟨o, e', s', hq, n, m0 + n, fun m hm j hj => ?_⟩
  simp only [runCode] at h
  exact iter_le (fun e s x hx => runCode_le (h0 n m hm) (by omega) hx) hj h
theorem cont_of {p : VProg} {l : List Ent} (hT : Tab p l) {k n : Nat} {Q : Out → Env → Store → Prop} : ∀ {K : List Fr} {o : Out} {e : Env} {s : Store} {o' : Out} {e' : Env} {s' : Store},
    runK (callE p l n) (flagsOf p) k n K o e s = some (o', e', s') → Q o' e' s' → cont p k K Q o e s
  | [], o, e, s, o', e', s', h, hq => by
    simp only [runK, Option.some.injEq, Prod.mk.injEq] at h
    obtain ⟨rfl, rfl, rfl⟩ := h
    unfold cont; exact hq
  | .seq b :: K, o, e, s, o', e', s', h, hq => by
    unfold cont
    cases o with
    | normal =>
      simp only [runK] at h
      cases h1 : runCode (callE p l n) (flagsOf p) k n b e s with
      | none => rw [h1] at h; cases h
      | some y => obtain ⟨o1, e1, s1⟩ := y; rw [h1] at h; exact run_of hT h1 (cont_of hT h hq)
    | exit i => exact cont_of hT (K := K) h hq
    | ret => exact cont_of hT (K := K) h hq
  | .block id :: K, o, e, s, o', e', s', h, hq => by
    unfold cont
    cases o with
    | normal => exact cont_of hT (K := K) h hq
    | exit i =>
      simp only [runK] at h
      have := cont_of hT (K := K) h hq
      simp only [blockTo]
      split
      · rename_i hi; rw [if_pos hi] at this; exact this
      · rename_i hi; rw [if_neg hi] at this; exact this
    | ret => exact cont_of hT (K := K) h hq
  | .loop lv b :: K, o, e, s, o', e', s', h, hq => by
    unfold cont
    cases o with
    | normal =>
      simp only [runK] at h
      cases h1 : runCode (callE p l n) (flagsOf p) k n (.loop lv b) e s with
      | none => rw [h1] at h; cases h
      | some y => obtain ⟨o1, e1, s1⟩ := y; rw [h1] at h; exact loop_of hT h1 (cont_of hT h hq)
    | exit i => exact cont_of hT (K := K) h hq
    | ret => exact cont_of hT (K := K) h hq
/-- All that is still to be done, and the function's end. -/
def restE (call : CallSem) (flags : Nat → List Bool) (k fuel : Nat) (K : List Fr) (keep : Bool) (kk : Nat) (res : List VRes) (o : Out) (e : Env) (s : Store) : Option (V × Store) :=
  match runK call flags k fuel K o e s with
  | some (o, e, s) => fin keep kk res o e s
  | none => none
theorem ctb {p : VProg} {l : List Ent} (hT : Tab p l) {k n kk : Nat} {K : List Fr} {o : Out} {e : Env} {s bs' : Store} {keep : Bool} {res : List VRes} {r : V}
    (h : isRes (restE (callE p l n) (flagsOf p) k n K keep kk res o e s) r bs' = true) : cont p k K (fun o e s => fin keep kk res o e s = some (r, bs')) o e s := by
  unfold isRes at h
  split at h
  · rename_i y s1 he
    simp only [Bool.and_eq_true] at h
    rw [beqV_eq h.1, beqS_eq h.2]
    unfold restE at he
    split at he
    · rename_i o1 e1 s1' h1; exact cont_of hT h1 he
    · cases he
  · cases h
/-- A value that is told anew. -/
theorem oe {p : VProg} {b0 : Nat} {d : Option Nat} {op : VOp} {os : List VOper} {e : Env} {s s1 : Store} {Q : Env → Store → Prop} {x x' : V} (h1 : seeR (runOp (fun _ _ _ => none) (fun _ => []) b0 op e s) = some (x', s1)) (hx : x' = x) (h : Ops p b0 os (put e d x) s1 Q) : Ops p b0 (⟨d, op, none⟩ :: os) e s Q := by
  subst hx; exact ov h1 h
end Go.Proofs.YtboekhenldifhaaGreat
