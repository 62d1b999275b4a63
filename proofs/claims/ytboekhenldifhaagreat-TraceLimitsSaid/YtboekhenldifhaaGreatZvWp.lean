/- What a run of the machine comes to, without fuel. -/
import Derived.Test.YtboekhenldifhaaGreatZvVm
set_option linter.unusedSimpArgs false
set_option linter.unusedVariables false
namespace Go.Proofs.YtboekhenldifhaaGreat
variable {p : VProg} {k : Nat}
/-- With fuel enough. -/
def Evt (P : Nat → Prop) : Prop := ∃ n0, ∀ n, n0 ≤ n → P n
theorem Evt.and {P Q : Nat → Prop} (h : Evt P) (h' : Evt Q) : Evt fun n => P n ∧ Q n := by
  obtain ⟨a, h⟩ := h
  obtain ⟨b, h'⟩ := h'
  exact ⟨max a b, fun n hn => ⟨h n (by omega), h' n (by omega)⟩⟩
theorem Evt.mono {P Q : Nat → Prop} (h : Evt P) (hpq : ∀ n, P n → Q n) : Evt Q := let ⟨a, h⟩ := h; ⟨a, fun n hn => hpq n (h n hn)⟩
theorem Evt.all {P : Nat → Prop} (h : ∀ n, P n) : Evt P := ⟨0, fun n _ => h n⟩
/-- A call of the machine's program. -/
def Ret (p : VProg) (t : Tgt) (args : List V) (bs : Store) (r : V) (bs' : Store) : Prop := Evt fun n => callN p n t args bs = some (r, bs')
/-- A run of code. -/
def Run (p : VProg) (k : Nat) (c : VCode) (e : Env) (s : Store) (Q : Out → Env → Store → Prop) : Prop :=
  ∃ out e' s', Q out e' s' ∧ Evt fun n => runCode (callN p n) (flagsOf p) k n c e s = some (out, e', s')
/-- Operations, one behind the other. -/
def Ops (p : VProg) (b : Nat) (os : List VOper) (e : Env) (s : Store) (Q : Env → Store → Prop) : Prop :=
  ∃ e' s', Q e' s' ∧ Evt fun n => runOps (callN p n) (flagsOf p) b os e s = some (e', s')
theorem Run.mono {c : VCode} {e : Env} {s : Store} {Q Q' : Out → Env → Store → Prop} (h : Run p k c e s Q) (hq : ∀ o e s, Q o e s → Q' o e s) : Run p k c e s Q' := let ⟨o, e', s', a, b⟩ := h; ⟨o, e', s', hq _ _ _ a, b⟩
theorem Ops.mono {b : Nat} {os : List VOper} {e : Env} {s : Store} {Q Q' : Env → Store → Prop} (h : Ops p b os e s Q) (hq : ∀ e s, Q e s → Q' e s) : Ops p b os e s Q' := let ⟨e', s', a, b⟩ := h; ⟨e', s', hq _ _ a, b⟩
theorem ops_nil {b : Nat} {e : Env} {s : Store} {Q : Env → Store → Prop} (h : Q e s) : Ops p b [] e s Q := ⟨e, s, h, .all fun _ => rfl⟩
/-- An operation that makes no call. -/
theorem ops_cons {b : Nat} {o : VOper} {os : List VOper} {e e1 : Env} {s s1 : Store} {Q : Env → Store → Prop} (h1 : ∀ call, runOper call (flagsOf p) b o e s = some (e1, s1)) (h : Ops p b os e1 s1 Q) : Ops p b (o :: os) e s Q := by
  obtain ⟨e', s', hq, hr⟩ := h
  exact ⟨e', s', hq, hr.mono fun n hn => by simp only [runOps, h1]; exact hn⟩
theorem callOut_none {t : Tgt} {flags : List Bool} {args : List V} {s : Store} : callOut (fun _ _ _ => none) t flags args s = none := by
  unfold callOut
  split
  · rfl
  · unfold callIds
    split
    · split <;> rfl
    · rfl
theorem runOp_pure {b : Nat} {op : VOp} {e : Env} {s : Store} {r : Res × Store} (h : runOp (fun _ _ _ => none) (fun _ => []) b op e s = some r) (call : CallSem) (flags : Nat → List Bool) : runOp call flags b op e s = some r := by
  cases op with
  | call f args => simp only [runOp, callOut_none] at h; cases h
  | callv f args =>
    simp only [runOp, callOut_none] at h
    split at h <;> cases h
  | _ => exact h
/-- What an operation that makes no call comes to. -/
def opTo (b : Nat) (op : VOp) (e : Env) (s : Store) (K : V → Store → Prop) : Prop :=
  match runOp (fun _ _ _ => none) (fun _ => []) b op e s with
  | some (.val x, s') => K x s'
  | some (.none, s') => K skipV s'
  | none => False
theorem ops_op {b : Nat} {d : Option Nat} {op : VOp} {os : List VOper} {e : Env} {s : Store} {Q : Env → Store → Prop} (h : opTo b op e s fun x s' => Ops p b os (put e d x) s' Q) : Ops p b (⟨d, op, none⟩ :: os) e s Q := by
  unfold opTo at h
  split at h
  · rename_i x s' hr; exact ops_cons (fun call => by simp only [runOper, wants, runOp_pure hr]) h
  · rename_i s' hr; exact ops_cons (fun call => by simp only [runOper, wants, runOp_pure hr]) h
  · exact h.elim
/-- A value, looked at. -/
def seeV {α : Sort _} (x : V) (K : V → α) : α :=
  match x with
  | .d (.int k n) => K (.d (.int k n))
  | .d (.bool b) => K (.d (.bool b))
  | .d (.slice es) => K (.d (.slice es))
  | .d (.agg cs) => K (.d (.agg cs))
  | .d (.iptr cs o) => K (.d (.iptr cs o))
  | .d (.tuple vs) => K (.d (.tuple vs))
  | .d (.func f a b) => K (.d (.func f a b))
  | .d (.str b) => K (.d (.str b))
  | .ptr a b c d => K (.ptr a b c d)
  | .ms a b c d => K (.ms a b c d)
  | .asl a b c d e => K (.asl a b c d e)
  | .lit es => K (.lit es)
  | .agg cs => K (.agg cs)
  | .tuple cs => K (.tuple cs)
  | .func f a b => K (.func f a b)
  | .map i => K (.map i)
  | .yield i => K (.yield i)
  | .nils => K .nils
  | .emp => K .emp
  | x => K x
theorem seeV_eq {α : Sort _} (x : V) (K : V → α) : seeV x K = K x := by
  unfold seeV
  split <;> rfl
def seeVs {α : Sort _} : List V → (List V → α) → α
  | [], K => K []
  | x :: xs, K => seeV x fun x => seeVs xs fun xs => K (x :: xs)
theorem seeVs_eq {α : Sort _} : ∀ (xs : List V) (K : List V → α), seeVs xs K = K xs
  | [], K => rfl
  | x :: xs, K => by simp only [seeVs, seeV_eq, seeVs_eq xs]
/-- A store, looked at. -/
def seeS {α : Sort _} : Store → (Store → α) → α
  | [], K => K []
  | none :: s, K => seeS s fun s => K (none :: s)
  | some (.rows v ro e els) :: s, K => seeS s fun s => K (some (.rows v ro e els) :: s)
  | some (.map es) :: s, K => seeS s fun s => K (some (.map es) :: s)
  | some (.loop st j env ps a b) :: s, K => seeS s fun s => K (some (.loop st j env ps a b) :: s)
theorem seeS_eq {α : Sort _} : ∀ (s : Store) (K : Store → α), seeS s K = K s
  | [], K => rfl
  | none :: s, K => by simp only [seeS, seeS_eq s]
  | some (.rows v ro e els) :: s, K => by simp only [seeS, seeS_eq s]
  | some (.map es) :: s, K => by simp only [seeS, seeS_eq s]
  | some (.loop st j env ps a b) :: s, K => by simp only [seeS, seeS_eq s]
def seeR (r : Option (Res × Store)) : Option (V × Store) :=
  match r with
  | some (.val x, s) => seeV x fun x => seeS s fun s => some (x, s)
  | some (.none, s) => seeS s fun s => some (skipV, s)
  | none => none
/-- One operation that makes no call, whose answer is seen. -/
theorem ops_val {b : Nat} {d : Option Nat} {op : VOp} {os : List VOper} {e : Env} {s s1 : Store} {x : V} {Q : Env → Store → Prop} (h1 : seeR (runOp (fun _ _ _ => none) (fun _ => []) b op e s) = some (x, s1)) (h : Ops p b os (put e d x) s1 Q) : Ops p b (⟨d, op, none⟩ :: os) e s Q := by
  refine ops_op ?_
  unfold opTo
  unfold seeR at h1
  split at h1
  · rename_i y s' hr
    rw [seeV_eq, seeS_eq] at h1
    injection h1 with h1; injection h1 with h1 h2; subst h1; subst h2
    exact h
  · rename_i s' hr
    rw [seeS_eq] at h1
    injection h1 with h1; injection h1 with h1 h2; subst h1; subst h2
    exact h
  · cases h1
theorem ops_guard {b : Nat} {d : Option Nat} {op : VOp} {os : List VOper} {g : Nat} {w t : Bool} {e : Env} {s : Store} {Q : Env → Store → Prop} (hg : e g = .d (.bool t)) (h : if t = w then Ops p b (⟨d, op, none⟩ :: os) e s Q else Ops p b os (put e d skipV) s Q) : Ops p b (⟨d, op, some (g, w)⟩ :: os) e s Q := by
  by_cases hw : t = w
  · rw [if_pos hw] at h
    obtain ⟨e', s', hq, hr⟩ := h
    refine ⟨e', s', hq, hr.mono fun n hn => ?_⟩
    have e1 : wants (some (g, w)) e = some true := by simp [wants, hg, hw]
    simp only [runOps, runOper, e1] at hn ⊢
    exact hn
  · rw [if_neg hw] at h
    refine ops_cons (fun call => ?_) h
    have e1 : wants (some (g, w)) e = some false := by simp [wants, hg]; cases t <;> cases w <;> simp_all
    simp only [runOper, e1]
theorem ops_guard_skip {b : Nat} {d : Option Nat} {op : VOp} {os : List VOper} {g : Nat} {w : Bool} {e : Env} {s : Store} {Q : Env → Store → Prop} (hg : e g = skipV) (h : Ops p b os (put e d skipV) s Q) : Ops p b (⟨d, op, some (g, w)⟩ :: os) e s Q :=
  ops_cons (fun call => by simp [runOper, wants, hg, skipV]) h
theorem run_skip {e : Env} {s : Store} {Q : Out → Env → Store → Prop} (h : Q .normal e s) : Run p k .skip e s Q := ⟨_, _, _, h, .all fun _ => rfl⟩
theorem run_exit {id : Nat} {e : Env} {s : Store} {Q : Out → Env → Store → Prop} (h : Q (.exit id) e s) : Run p k (.exit id) e s Q := ⟨_, _, _, h, .all fun _ => rfl⟩
theorem run_ret {e : Env} {s : Store} {Q : Out → Env → Store → Prop} (h : Q .ret e s) : Run p k .ret e s Q := ⟨_, _, _, h, .all fun _ => rfl⟩
theorem run_region {sl : Nat} {ops : List VOper} {e : Env} {s : Store} {Q : Out → Env → Store → Prop} (h : Ops p s.length ops e (s ++ List.replicate sl none) (Q .normal)) : Run p k (.region none sl ops) e s Q := by
  obtain ⟨e', s', hq, hr⟩ := h
  exact ⟨_, _, _, hq, hr.mono fun n hn => by simp only [runCode, runRegion, hn]; rfl⟩
/-- What comes behind a part that may leave. -/
def thenTo (K : Env → Store → Prop) (Q : Out → Env → Store → Prop) : Out → Env → Store → Prop
  | .normal, e, s => K e s
  | o, e, s => Q o e s
theorem run_seq {a b : VCode} {e : Env} {s : Store} {Q : Out → Env → Store → Prop} (h : Run p k a e s (thenTo (fun e s => Run p k b e s Q) Q)) : Run p k (.seq a b) e s Q := by
  obtain ⟨o, e1, s1, h1, hr1⟩ := h
  cases o with
  | normal =>
    obtain ⟨o, e2, s2, h2, hr2⟩ := h1
    exact ⟨o, e2, s2, h2, (hr1.and hr2).mono fun n hn => by simp only [runCode, hn.1, hn.2]⟩
  | exit id => exact ⟨_, _, _, h1, hr1.mono fun n hn => by simp only [runCode, hn]⟩
  | ret => exact ⟨_, _, _, h1, hr1.mono fun n hn => by simp only [runCode, hn]⟩
theorem run_cond {c : Opd} {a b : VCode} {t : Bool} {e : Env} {s : Store} {Q : Out → Env → Store → Prop} (hc : ev e c = .d (.bool t)) (h : if t then Run p k a e s Q else Run p k b e s Q) : Run p k (.cond c a b) e s Q := by
  cases t with
  | true => obtain ⟨o, e', s', hq, hr⟩ := h; exact ⟨o, e', s', hq, hr.mono fun n hn => by simp only [runCode, hc, hn]⟩
  | false => obtain ⟨o, e', s', hq, hr⟩ := h; exact ⟨o, e', s', hq, hr.mono fun n hn => by simp only [runCode, hc, hn]⟩
def blockTo (id : Nat) (Q : Out → Env → Store → Prop) : Out → Env → Store → Prop
  | .exit i, e, s => if i = id then Q .normal e s else Q (.exit i) e s
  | o, e, s => Q o e s
theorem run_block {id : Nat} {a : VCode} {e : Env} {s : Store} {Q : Out → Env → Store → Prop} (h : Run p k a e s (blockTo id Q)) : Run p k (.block id a) e s Q := by
  obtain ⟨o, e1, s1, h1, hr1⟩ := h
  cases o with
  | normal => exact ⟨_, _, _, h1, hr1.mono fun n hn => by simp only [runCode, hn]⟩
  | ret => exact ⟨_, _, _, h1, hr1.mono fun n hn => by simp only [runCode, hn]⟩
  | exit i =>
    simp only [blockTo] at h1
    by_cases hi : i = id
    · rw [if_pos hi] at h1; exact ⟨_, _, _, h1, hr1.mono fun n hn => by simp only [runCode, hn, if_pos hi]⟩
    · rw [if_neg hi] at h1; exact ⟨_, _, _, h1, hr1.mono fun n hn => by simp only [runCode, hn, if_neg hi]⟩
/-- A loop at the head of its body. -/
def Loop (p : VProg) (k : Nat) (live : List Nat) (body : VCode) (e : Env) (s : Store) (Q : Out → Env → Store → Prop) : Prop :=
  ∃ out e' s', Q out e' s' ∧ ∃ m, Evt fun n => ∀ j, m ≤ j → iter (fun e s => let (e1, s1) := sweep k live e s; runCode (callN p n) (flagsOf p) k n body e1 s1) j e s = some (out, e', s')
theorem run_loop {live : List Nat} {body : VCode} {e : Env} {s : Store} {Q : Out → Env → Store → Prop} (h : Loop p k live body e s Q) : Run p k (.loop live body) e s Q := by
  obtain ⟨o, e', s', hq, m, n0, hr⟩ := h
  exact ⟨o, e', s', hq, max m n0, fun n hn => by simp only [runCode]; exact hr n (by omega) n (by omega)⟩
theorem loop_step {live : List Nat} {body : VCode} {e : Env} {s : Store} {Q : Out → Env → Store → Prop} (h : Run p k body (sweep k live e s).1 (sweep k live e s).2 (thenTo (fun e s => Loop p k live body e s Q) Q)) : Loop p k live body e s Q := by
  obtain ⟨o, e1, s1, h1, hr1⟩ := h
  cases o with
  | normal =>
    obtain ⟨o, e2, s2, h2, m, hr2⟩ := h1
    refine ⟨o, e2, s2, h2, m + 1, (hr1.and hr2).mono fun n hn j hj => ?_⟩
    obtain ⟨j, rfl⟩ : ∃ i, j = i + 1 := ⟨j - 1, by omega⟩
    simp only [iter, hn.1]
    exact hn.2 j (by omega)
  | exit id =>
    refine ⟨_, _, _, h1, 1, hr1.mono fun n hn j hj => ?_⟩
    obtain ⟨j, rfl⟩ : ∃ i, j = i + 1 := ⟨j - 1, by omega⟩
    simp only [iter, hn]
  | ret =>
    refine ⟨_, _, _, h1, 1, hr1.mono fun n hn j hj => ?_⟩
    obtain ⟨j, rfl⟩ : ∃ i, j = i + 1 := ⟨j - 1, by omega⟩
    simp only [iter, hn]
/-! ### Loops, at the head of the body -/
def sweepTo (k : Nat) (live : List Nat) (e : Env) (s : Store) : Option (List V × Store) :=
  seeVs (live.map fun t => ren (pos (gcIds s k (refsE (lives e live)))) (e t)) fun vs => seeS (pack s (gcIds s k (refsE (lives e live))) (pos (gcIds s k (refsE (lives e live))))) fun s => some (vs, s)
/-! ### Functions -/
def fin (keep : Bool) (k : Nat) (res : List VRes) : Out → Env → Store → Option (V × Store)
  | .exit _, _, _ => none
  | _, e, s => match results e s res with
    | some xs => leave keep k (oneOf xs) s
    | none => none
theorem ret_of {f : Nat} {fn : VFun} {args : List V} {bs bs' : Store} {r : V} (hf : p f = some fn) (hs : fn.split = false)
    (h : Run p bs.length fn.body (argEnv 0 args) bs fun o e s => fin fn.keep bs.length fn.res o e s = some (r, bs')) : Ret p (.fn f) args bs r bs' := by
  obtain ⟨o, e, s, hq, n0, hr⟩ := h
  refine ⟨n0 + 1, fun n hn => ?_⟩
  obtain ⟨n, rfl⟩ : ∃ i, n = i + 1 := ⟨n - 1, by omega⟩
  have hr := hr n (by omega)
  simp only [callN, hf, hs, runFn, Bool.false_eq_true, if_false, hr]
  cases o <;> first | exact hq | (simp [fin] at hq)

/-! ### Values without references -/
mutual
theorem ren_norefs {m : Nat → Option Nat} : ∀ {x : V}, refs x = [] → ren m x = x
  | .agg cs, h => by simp only [refs] at h; simp only [ren, renL_norefs h]
  | .tuple cs, h => by simp only [refs] at h; simp only [ren, renL_norefs h]
  | .func f a b, h => by
    simp only [refs, List.append_eq_nil_iff] at h
    simp only [ren, renL_norefs h.1, renL_norefs h.2]
  | .ptr _ _ _ _, h => by simp [refs] at h
  | .ms _ _ _ _, h => by simp [refs] at h
  | .asl _ _ _ _ _, h => by simp [refs] at h
  | .map _, h => by simp [refs] at h
  | .yield _, h => by simp [refs] at h
  | .poison, _ => rfl
  | .d _, _ => rfl
  | .nils, _ => rfl
  | .emp, _ => rfl
  | .non, _ => rfl
  | .lit _, _ => rfl
theorem renL_norefs {m : Nat → Option Nat} : ∀ {xs : List V}, refsL xs = [] → renL m xs = xs
  | [], _ => rfl
  | x :: xs, h => by
    simp only [refsL, List.append_eq_nil_iff] at h
    simp only [renL, ren_norefs h.1, renL_norefs h.2]
end
/-! ### What is known of an environment -/
def over (l : List (Nat × V)) (e : Env) : Env := l.foldr (fun (t, v) e => upd e t v) e
def agree (e : Env) : List (Nat × V) → Prop
  | [] => True
  | (t, v) :: l => e t = v ∧ agree e l
theorem over_agree {e : Env} : ∀ {l : List (Nat × V)}, agree e l → over l e = e
  | [], _ => rfl
  | (t, v) :: l, h => by
    have ih := over_agree h.2
    simp only [over, List.foldr_cons] at ih ⊢
    rw [ih]
    funext x
    unfold upd
    cases hq : Nat.beq x t with
    | false => rfl
    | true => rw [Nat.eq_of_beq_eq_true hq, cond_true, h.1]
/-! ### What is still to be done, as a list -/
inductive Fr where
  | seq (b : VCode)
  | block (id : Nat)
  | loop (live : List Nat) (body : VCode)
def cont (p : VProg) (k : Nat) : List Fr → (Out → Env → Store → Prop) → Out → Env → Store → Prop
  | [], Q => Q
  | .seq b :: K, Q => thenTo (fun e s => Run p k b e s (cont p k K Q)) (cont p k K Q)
  | .block id :: K, Q => blockTo id (cont p k K Q)
  | .loop live body :: K, Q => thenTo (fun e s => Loop p k live body e s (cont p k K Q)) (cont p k K Q)
def Head (p : VProg) (k : Nat) (live : List Nat) (body : VCode) (vs : List V) (s : Store) (K : List Fr) (Q : Out → Env → Store → Prop) : Prop :=
  Run p k body (envOf (live.zip vs)) s (cont p k (.loop live body :: K) Q)
theorem zip_map {β : Type} (f : Nat → β) : ∀ l : List Nat, l.zip (l.map f) = l.map fun t => (t, f t)
  | [] => rfl
  | x :: l => by simp [zip_map f l]
theorem loop_head {live : List Nat} {body : VCode} {e : Env} {s s1 : Store} {vs : List V} {K : List Fr} {Q : Out → Env → Store → Prop} (h : sweepTo k live e s = some (vs, s1)) (hb : Head p k live body vs s1 K Q) : Loop p k live body e s (cont p k K Q) := by
  unfold sweepTo at h
  rw [seeVs_eq, seeS_eq] at h
  injection h with h; injection h with h1 h2
  refine loop_step ?_
  have e1 : (sweep k live e s).1 = envOf (live.zip vs) := by
    rw [← h1]
    rw [zip_map]
    simp only [sweep, renE, lives, List.map_map]
    rfl
  have e2 : (sweep k live e s).2 = s1 := by rw [← h2]; rfl
  rw [e1, e2]; exact hb
section
variable {K : List Fr} {Q : Out → Env → Store → Prop} {e : Env} {s : Store} {a b : VCode} {id : Nat} {live : List Nat}
theorem r0 (h : Run p k a e s (cont p k [] Q)) : Run p k a e s Q := h
theorem rs (h : Run p k a e s (cont p k (.seq b :: K) Q)) : Run p k (.seq a b) e s (cont p k K Q) := run_seq h
theorem rb (h : Run p k a e s (cont p k (.block id :: K) Q)) : Run p k (.block id a) e s (cont p k K Q) := run_block h
theorem rl (h : Loop p k live a e s (cont p k K Q)) : Run p k (.loop live a) e s (cont p k K Q) := run_loop h
theorem rr {sl n : Nat} {s1 : Store} {ops : List VOper} (hs : seeS (s ++ List.replicate sl none) some = some s1) (hn : s.length = n) (h : Ops p n ops e s1 (cont p k K Q .normal)) : Run p k (.region none sl ops) e s (cont p k K Q) := by
  rw [seeS_eq] at hs; injection hs with hs; subst hs; subst hn
  exact run_region h
theorem rk (h : cont p k K Q .normal e s) : Run p k .skip e s (cont p k K Q) := run_skip h
theorem rx (h : cont p k K Q (.exit id) e s) : Run p k (.exit id) e s (cont p k K Q) := run_exit h
theorem cont_ret : ∀ {K : List Fr}, Q .ret e s → cont p k K Q .ret e s
  | [], h => h
  | .seq _ :: K, h => cont_ret (K := K) h
  | .block _ :: K, h => cont_ret (K := K) h
  | .loop _ _ :: K, h => cont_ret (K := K) h
theorem rt (h : Q .ret e s) : Run p k .ret e s (cont p k K Q) := run_ret (cont_ret h)
theorem rct {c : Opd} {t : Bool} (hc : ev e c = .d (.bool t)) (ht : t = true) (h : Run p k a e s (cont p k K Q)) : Run p k (.cond c a b) e s (cont p k K Q) := run_cond hc (by rw [if_pos ht]; exact h)
theorem rcf {c : Opd} {t : Bool} (hc : ev e c = .d (.bool t)) (ht : t = false) (h : Run p k b e s (cont p k K Q)) : Run p k (.cond c a b) e s (cont p k K Q) := run_cond hc (by rw [if_neg (by simp [ht])]; exact h)
theorem ks (h : Run p k b e s (cont p k K Q)) : cont p k (.seq b :: K) Q .normal e s := h
theorem kb (h : cont p k K Q .normal e s) : cont p k (.block id :: K) Q .normal e s := h
theorem kl (h : Loop p k live a e s (cont p k K Q)) : cont p k (.loop live a :: K) Q .normal e s := h
theorem xb (h : cont p k K Q .normal e s) : cont p k (.block id :: K) Q (.exit id) e s := by simp only [cont, blockTo]; exact h
theorem xo {i : Nat} (hi : i ≠ id) (h : cont p k K Q (.exit i) e s) : cont p k (.block id :: K) Q (.exit i) e s := by simp only [cont, blockTo, if_neg hi]; exact h
theorem xs (h : cont p k K Q (.exit id) e s) : cont p k (.seq b :: K) Q (.exit id) e s := h
theorem ko {o : Out} {l : List (Nat × V)} (h : agree e l) (hq : cont p k K Q o (over l e) s) : cont p k K Q o e s := by rw [over_agree h] at hq; exact hq
theorem kq {o : Out} (h : Q o e s) : cont p k [] Q o e s := h
theorem xl (h : cont p k K Q (.exit id) e s) : cont p k (.loop live a :: K) Q (.exit id) e s := h
end
section
variable {b0 : Nat} {d : Option Nat} {op : VOp} {os : List VOper} {e : Env} {s s1 : Store} {Q : Env → Store → Prop}
theorem o0 (h : Q e s) : Ops p b0 [] e s Q := ops_nil h
theorem ov {x : V} (h1 : seeR (runOp (fun _ _ _ => none) (fun _ => []) b0 op e s) = some (x, s1)) (h : Ops p b0 os (put e d x) s1 Q) : Ops p b0 (⟨d, op, none⟩ :: os) e s Q := ops_val h1 h
/-- A guarded operation that is wanted. -/
theorem og {g : Nat} {w t : Bool} (hg : e g = .d (.bool t)) (ht : t = w) (h : Ops p b0 (⟨d, op, none⟩ :: os) e s Q) : Ops p b0 (⟨d, op, some (g, w)⟩ :: os) e s Q := ops_guard hg (by rw [if_pos ht]; exact h)
/-- One that is not. -/
theorem of' {g : Nat} {w t : Bool} (hg : e g = .d (.bool t)) (ht : t = !w) (h : Ops p b0 os (put e d skipV) s Q) : Ops p b0 (⟨d, op, some (g, w)⟩ :: os) e s Q := ops_guard hg (by rw [if_neg (by rw [ht]; cases w <;> simp)]; exact h)
theorem oz {g : Nat} {w : Bool} (hg : e g = skipV) (h : Ops p b0 os (put e d skipV) s Q) : Ops p b0 (⟨d, op, some (g, w)⟩ :: os) e s Q := ops_guard_skip hg h
theorem opt {c a b : Opd} {t : Bool} {x : V} (hc : ev e c = .d (.bool t)) (ht : t = true) (hx : seeV (ev e a) some = some x) (h : Ops p b0 os (put e d x) s Q) : Ops p b0 (⟨d, .pick c a b, none⟩ :: os) e s Q := by
  rw [seeV_eq] at hx; injection hx with hx; subst hx
  exact ops_cons (fun call => by simp only [runOper, wants, runOp, hc, ht, if_true]) h
theorem opf {c a b : Opd} {t : Bool} {x : V} (hc : ev e c = .d (.bool t)) (ht : t = false) (hx : seeV (ev e b) some = some x) (h : Ops p b0 os (put e d x) s Q) : Ops p b0 (⟨d, .pick c a b, none⟩ :: os) e s Q := by
  rw [seeV_eq] at hx; injection hx with hx; subst hx
  exact ops_cons (fun call => by simp only [runOper, wants, runOp, hc, ht]; rfl) h
/-- The address of an element. -/
theorem oi {esz i : Nat} {x y : Opd} {es : List D} {el : D} (hx : ev e x = .d (.slice es)) (hy : ev e y = .d (.int .i64 i)) (hg : es[i]? = some el) (hc : el.cells.length = esz) (h : Ops p b0 os (put e d (.d (.iptr el.cells 0))) s Q) : Ops p b0 (⟨d, .iaddrS esz x y, none⟩ :: os) e s Q :=
  ops_val (by simp only [runOp, iaddrSV, hx, hy, idx, Int.natCast_nonneg, if_true, Int.toNat_natCast, hg, hc]; simp only [seeR, Option.map_some, seeV, seeS_eq]) h
/-- Slices of data. -/
theorem osh {esz h : Nat} {x y : Opd} {es : List D} {k : IntKind} (hx : ev e x = .d (.slice es)) (hy : ev e y = .d (.int k h)) (hh : h ≤ es.length) (hw : wide (esz + 1) es = true) (hq : Ops p b0 os (put e d (.d (.slice (es.take h)))) s Q) : Ops p b0 (⟨d, .slice (esz + 1) x none (some y), none⟩ :: os) e s Q :=
  ops_val (by simp [runOp, hx, hy, isStr, sliceV, lenV, bound, hh, hw, seeR, seeV, seeS_eq]) hq
theorem osl {esz l : Nat} {x y : Opd} {es : List D} {k : IntKind} (hx : ev e x = .d (.slice es)) (hy : ev e y = .d (.int k l)) (hh : l ≤ es.length) (hw : wide (esz + 1) es = true) (hq : Ops p b0 os (put e d (.d (.slice (es.drop l)))) s Q) : Ops p b0 (⟨d, .slice (esz + 1) x (some y) none, none⟩ :: os) e s Q :=
  ops_val (by simp [runOp, hx, hy, isStr, sliceV, lenV, bound, hh, hw, seeR, seeV, seeS_eq]; rw [List.take_of_length_le (by simp)]) hq
/-- A call with data. -/
theorem oc {f : Nat} {args : List Opd} {as : List V} {fz : List Nat} {r : D} (hc : convArgs s (flagsOf p f) (args.map (ev e)) = some (as, fz)) (hr : refsL as = []) (hret : Ret p (.fn f) as [] (.d r) []) (h : Ops p b0 os (put e d (.d r)) (if flatD r then s else closeB s fz) Q) : Ops p b0 (⟨d, .call f args, none⟩ :: os) e s Q := by
  obtain ⟨e', s', hq, hrun⟩ := h
  refine ⟨e', s', hq, (hret.and hrun).mono fun n hn => ?_⟩
  have hren : renL (pos []) as = as := by
    exact renL_norefs hr
  have hcall : callOut (callN p n) (.fn f) (flagsOf p f) (args.map (ev e)) s = some (.d r, if flatD r then s else closeB s fz) := by
    have hreach : reach s (budget s) [] [] = [] := rfl
    simp only [callOut, hc, rootsT, hr, List.append_nil, hreach]
    simp only [callIds, List.all_nil, if_true, tgtAt, hren, pack, List.map_nil, hn.1]
    simp only [List.length_nil, Nat.le_refl, List.take_nil, allS, List.all_nil, and_self, if_true, lends, List.isEmpty_nil, Bool.true_and, storeBack, backB, List.drop_nil, List.map_nil, List.append_nil, ren]
  simp only [runOps, runOper, wants, runOp, hcall, Option.map_some]
  exact hn.2
end
theorem oC {b0 : Nat} {d : Option Nat} {os : List VOper} {e : Env} {s s2 : Store} {Q : Env → Store → Prop} {f : Nat} {args : List Opd} {as : List V} {fz : List Nat} {r : D} (hc : convArgs s (flagsOf p f) (args.map (ev e)) = some (as, fz)) (hr : refsL as = []) (hret : Ret p (.fn f) as [] (.d r) []) (hs : seeS (if flatD r then s else closeB s fz) some = some s2) (h : Ops p b0 os (put e d (.d r)) s2 Q) : Ops p b0 (⟨d, .call f args, none⟩ :: os) e s Q := by
  rw [seeS_eq] at hs; injection hs with hs; subst hs
  exact oc hc hr hret h
/-! ### Regions that draw their order -/
def OpsF (p : VProg) (b : Nat) (os : List VOper) (e : Env) (s : Store) (Q : Env → Store → List Foot → Prop) : Prop :=
  ∃ e' s' fs, Q e' s' fs ∧ Evt fun n => runOpsF false (callN p n) (flagsOf p) b os e s = some (e', s', fs)
def LooseTo (fs : List Foot) (pairs : List (Nat × Nat)) (P : Prop) : Prop := loose fs pairs = true ∧ P
theorem lt' {fs : List Foot} {pairs : List (Nat × Nat)} {P : Prop} (h : loose fs pairs = true) (hp : P) : LooseTo fs pairs P := ⟨h, hp⟩
theorem rd {K : List Fr} {Q : Out → Env → Store → Prop} {e : Env} {s : Store} {sl n : Nat} {s1 : Store} {ops : List VOper} {pairs : List (Nat × Nat)} (hs : seeS (s ++ List.replicate sl none) some = some s1) (hn : s.length = n)
    (h : OpsF p n ops e s1 fun e s fs => LooseTo fs pairs (cont p k K Q .normal e s)) : Run p k (.region (some pairs) sl ops) e s (cont p k K Q) := by
  rw [seeS_eq] at hs; injection hs with hs; subst hs; subst hn
  obtain ⟨e', s', fs, ⟨hl, hq⟩, hr⟩ := h
  exact ⟨_, _, _, hq, hr.mono fun n hn => by simp only [runCode, runRegion, hn, hl, if_true]; rfl⟩
section
variable {b0 : Nat} {d : Option Nat} {op : VOp} {os : List VOper} {e : Env} {s s1 : Store} {Q : Env → Store → List Foot → Prop}
theorem fn0 (h : Q e s []) : OpsF p b0 [] e s Q := ⟨e, s, [], h, .all fun _ => rfl⟩
theorem fcons {o : VOper} {e1 : Env} (h1 : Evt fun n => runOper (callN p n) (flagsOf p) b0 o e s = some (e1, s1)) (h : OpsF p b0 os e1 s1 fun e' s' fs => Q e' s' (footOper false (flagsOf p) b0 o e s s1 :: fs)) : OpsF p b0 (o :: os) e s Q := by
  obtain ⟨e', s', fs, hq, hr⟩ := h
  exact ⟨e', s', _, hq, (h1.and hr).mono fun n hn => by simp only [runOpsF, hn.1, hn.2, Option.map_some]⟩
theorem fone {o : VOper} {e1 : Env} {P : Env → Store → Prop} (h : Ops p b0 [o] e s P) (hP : ∀ e' s', P e' s' → e' = e1 ∧ s' = s1) (hq : OpsF p b0 os e1 s1 fun e' s' fs => Q e' s' (footOper false (flagsOf p) b0 o e s s1 :: fs)) : OpsF p b0 (o :: os) e s Q := by
  obtain ⟨e', s', h1, h2⟩ := h
  obtain ⟨rfl, rfl⟩ := hP _ _ h1
  refine fcons (h2.mono fun n hn => ?_) hq
  simp only [runOps] at hn
  split at hn <;> try (cases hn; done)
  rename_i a b hab
  injection hn with hn; injection hn with hn1 hn2; subst hn1; subst hn2; exact hab
theorem fv {x : V} (h1 : seeR (runOp (fun _ _ _ => none) (fun _ => []) b0 op e s) = some (x, s1)) (h : OpsF p b0 os (put e d x) s1 fun e' s' fs => Q e' s' (footOper false (flagsOf p) b0 ⟨d, op, none⟩ e s s1 :: fs)) : OpsF p b0 (⟨d, op, none⟩ :: os) e s Q :=
  fone (P := fun e' s' => e' = put e d x ∧ s' = s1) (ops_val h1 (ops_nil ⟨rfl, rfl⟩)) (fun _ _ h => h) h
/-- A guarded operation that is wanted, and one that is not. -/
theorem fg {x : V} {g : Nat} {w t : Bool} (hg : e g = .d (.bool t)) (ht : t = w) (h1 : seeR (runOp (fun _ _ _ => none) (fun _ => []) b0 op e s) = some (x, s1)) (h : OpsF p b0 os (put e d x) s1 fun e' s' fs => Q e' s' (footOper false (flagsOf p) b0 ⟨d, op, some (g, w)⟩ e s s1 :: fs)) : OpsF p b0 (⟨d, op, some (g, w)⟩ :: os) e s Q :=
  fone (P := fun e' s' => e' = put e d x ∧ s' = s1) (ops_guard hg (by rw [if_pos ht]; exact ops_val h1 (ops_nil ⟨rfl, rfl⟩))) (fun _ _ h => h) h
theorem ff {g : Nat} {w t : Bool} (hg : e g = .d (.bool t)) (ht : t = !w) (h : OpsF p b0 os (put e d skipV) s fun e' s' fs => Q e' s' (footOper false (flagsOf p) b0 ⟨d, op, some (g, w)⟩ e s s :: fs)) : OpsF p b0 (⟨d, op, some (g, w)⟩ :: os) e s Q :=
  fone (P := fun e' s' => e' = put e d skipV ∧ s' = s) (of' hg ht (ops_nil ⟨rfl, rfl⟩)) (fun _ _ h => h) h
theorem fz' {g : Nat} {w : Bool} (hg : e g = skipV) (h : OpsF p b0 os (put e d skipV) s fun e' s' fs => Q e' s' (footOper false (flagsOf p) b0 ⟨d, op, some (g, w)⟩ e s s :: fs)) : OpsF p b0 (⟨d, op, some (g, w)⟩ :: os) e s Q :=
  fone (P := fun e' s' => e' = put e d skipV ∧ s' = s) (oz hg (ops_nil ⟨rfl, rfl⟩)) (fun _ _ h => h) h
theorem fpt {c a b : Opd} {t : Bool} {x : V} (hc : ev e c = .d (.bool t)) (ht : t = true) (hx : seeV (ev e a) some = some x) (h : OpsF p b0 os (put e d x) s fun e' s' fs => Q e' s' (footOper false (flagsOf p) b0 ⟨d, .pick c a b, none⟩ e s s :: fs)) : OpsF p b0 (⟨d, .pick c a b, none⟩ :: os) e s Q :=
  fone (P := fun e' s' => e' = put e d x ∧ s' = s) (opt hc ht hx (ops_nil ⟨rfl, rfl⟩)) (fun _ _ h => h) h
theorem fpf {c a b : Opd} {t : Bool} {x : V} (hc : ev e c = .d (.bool t)) (ht : t = false) (hx : seeV (ev e b) some = some x) (h : OpsF p b0 os (put e d x) s fun e' s' fs => Q e' s' (footOper false (flagsOf p) b0 ⟨d, .pick c a b, none⟩ e s s :: fs)) : OpsF p b0 (⟨d, .pick c a b, none⟩ :: os) e s Q :=
  fone (P := fun e' s' => e' = put e d x ∧ s' = s) (opf hc ht hx (ops_nil ⟨rfl, rfl⟩)) (fun _ _ h => h) h
theorem fi {esz i : Nat} {x y : Opd} {es : List D} {el : D} (hx : ev e x = .d (.slice es)) (hy : ev e y = .d (.int .i64 i)) (hg : es[i]? = some el) (hc : el.cells.length = esz) (h : OpsF p b0 os (put e d (.d (.iptr el.cells 0))) s fun e' s' fs => Q e' s' (footOper false (flagsOf p) b0 ⟨d, .iaddrS esz x y, none⟩ e s s :: fs)) : OpsF p b0 (⟨d, .iaddrS esz x y, none⟩ :: os) e s Q :=
  fone (P := fun e' s' => e' = put e d (.d (.iptr el.cells 0)) ∧ s' = s) (oi hx hy hg hc (ops_nil ⟨rfl, rfl⟩)) (fun _ _ h => h) h
theorem fc {f : Nat} {args : List Opd} {as : List V} {fz : List Nat} {r : D} {s2 : Store} (hc : convArgs s (flagsOf p f) (args.map (ev e)) = some (as, fz)) (hr : refsL as = []) (hret : Ret p (.fn f) as [] (.d r) []) (hs : seeS (if flatD r then s else closeB s fz) some = some s2) (h : OpsF p b0 os (put e d (.d r)) s2 fun e' s' fs => Q e' s' (footOper false (flagsOf p) b0 ⟨d, .call f args, none⟩ e s s2 :: fs)) : OpsF p b0 (⟨d, .call f args, none⟩ :: os) e s Q := by
  rw [seeS_eq] at hs; injection hs with hs; subst hs
  exact fone (P := fun e' s' => e' = put e d (.d r) ∧ s' = if flatD r then s else closeB s fz) (oc hc hr hret (ops_nil ⟨rfl, rfl⟩)) (fun _ _ h => h) h
end
/-! ### Rows of data -/
def rowsV (es : List D) : List (List V) := es.map fun x => x.cells.map V.d
theorem refsL_d : ∀ cs : List D, refsL (cs.map V.d) = []
  | [] => rfl
  | _ :: cs => by simp only [List.map_cons, refsL, refs, refsL_d cs, List.append_nil]
theorem refsR_rowsV : ∀ es : List D, refsR (rowsV es) = []
  | [] => rfl
  | e :: es => by
    have := refsR_rowsV es
    simp only [rowsV, List.map_cons, refsR, refsL_d, List.nil_append] at this ⊢; exact this
theorem renL_d {m : Nat → Option Nat} (cs : List D) : renL m (cs.map V.d) = cs.map V.d := renL_norefs (refsL_d cs)
theorem ren_rowsV {m : Nat → Option Nat} : ∀ es : List D, (rowsV es).map (renL m) = rowsV es
  | [] => rfl
  | e :: es => by
    have := ren_rowsV (m := m) es
    simp only [rowsV, List.map_cons, renL_d] at this ⊢; rw [this]
theorem rowsV_length (es : List D) : (rowsV es).length = es.length := List.length_map ..
def cellsOk (d : D) : Bool := d.cells.all scalarD && (match d with | .agg [_] => false | _ => true)
theorem ofCells_ok {d : D} (h : cellsOk d = true) : D.ofCells d.cells = d := by
  cases d with
  | agg cs =>
    cases cs with
    | nil => rfl
    | cons c cs =>
      cases cs with
      | nil => simp [cellsOk] at h
      | cons c' cs => rfl
  | _ => rfl
theorem cellsDW_d {s : Store} {n : Nat} : ∀ cs : List D, cellsDW (toD s (n + 1)) (cs.map V.d) = some (cs, [])
  | [] => rfl
  | c :: cs => by
    have := cellsDW_d (s := s) (n := n) cs
    simp only [List.map_cons, cellsDW, this]
    rfl
theorem rowsDW_rowsV {s : Store} {n : Nat} : ∀ es : List D, es.all cellsOk = true → rowsDW (toD s (n + 1)) (rowsV es) = some (es, [])
  | [], _ => rfl
  | e :: es, h => by
    simp only [List.all_cons, Bool.and_eq_true] at h
    have := rowsDW_rowsV (s := s) (n := n) es h.2
    simp only [rowsV, List.map_cons, rowsDW, cellsDW_d] at this ⊢
    simp only [this, ofCells_ok h.1, List.append_nil]
theorem reach_one {s : Store} {i : Nat} {b : Blk} (h : getB s i = some b) (hb : refsB b = []) : reach s (budget s) [i] [] = [i] := by
  have : budget s = 99998 + 2 := rfl
  rw [this]
  simp only [reach, List.contains_nil, Bool.false_eq_true, if_false, h, hb, List.append_nil, List.nil_append]
theorem toD_ms_eq {s : Store} {n id ver off len : Nat} : toD s (n + 1) (.ms id ver off len) = match getB s id with
    | some (.rows v _ esz els) => if v = ver ∧ 0 < esz ∧ off + len ≤ els.length then (rowsDW (toD s n) ((els.drop off).take len)).map (fun (es, a) => (.slice es, id :: a)) else none
    | _ => none := rfl
theorem toD_ms {s : Store} {n id ver k esz : Nat} {ro : Bool} {es : List D} (hb : getB s id = some (.rows ver ro (esz + 1) (rowsV es))) (hk : k = es.length) (ho : es.all cellsOk = true) : toD s (n + 2) (.ms id ver 0 k) = some (.slice es, [id]) := by
  subst hk
  have e : (rowsV es).take es.length = rowsV es := List.take_of_length_le (by rw [rowsV_length]; omega)
  rw [toD_ms_eq (n := n + 1), hb]
  simp only [Nat.zero_add, rowsV_length, Nat.le_refl, Nat.zero_lt_succ, and_self, if_true, List.drop_zero, e, rowsDW_rowsV es ho, Option.map_some]
theorem rowsOf_d {s : Store} {esz : Nat} {es : List D} (h : wide esz es = true) : rowsOf s esz (.d (.slice es)) = some (rowsV es) := by simp [rowsOf, h, rowsV]
theorem rowsV_fit {esz : Nat} {es : List D} (h : wide esz es = true) (ho : es.all cellsOk = true) : ((rowsV es).all fun r => r.length == esz && r.all scalarV) = true := by
  simp only [List.all_eq_true, rowsV, List.mem_map, forall_exists_index, and_imp, forall_apply_eq_imp_iff₂]
  intro x hx
  simp only [wide, List.all_eq_true] at h ho
  have h1 := h x hx
  have h2 := ho x hx
  simp only [cellsOk, Bool.and_eq_true, List.all_eq_true] at h2
  simp only [Bool.and_eq_true, List.all_eq_true, List.length_map, List.mem_map, forall_exists_index, and_imp, forall_apply_eq_imp_iff₂]
  exact ⟨h1, fun c hc => h2.1 c hc⟩
section
variable {b0 : Nat} {d : Option Nat} {os : List VOper} {e : Env} {s s1 : Store} {Q : Env → Store → Prop}
/-- Appending to nothing. -/
theorem oan {slot esz bytes : Nat} {x y : Opd} {es : List D} (hx : ev e x = .nils ∨ ev e x = .emp ∨ ev e x = .lit []) (hy : ev e y = .d (.slice es)) (hne : es ≠ []) (hw : wide esz es = true) (ho : es.all cellsOk = true) (hr : roomy es.length bytes = true)
    (hs : newB s (b0 + slot) (.rows 0 false esz (rowsV es)) = some s1) (h : Ops p b0 os (put e d (.ms (b0 + slot) 0 0 es.length)) s1 Q) : Ops p b0 (⟨d, .append slot esz bytes x y, none⟩ :: os) e s Q := by
  have hne' : rowsV es ≠ [] := by cases es <;> simp_all [rowsV]
  have hf := rowsV_fit hw ho
  have key : appendV s (b0 + slot) esz bytes (ev e x) (ev e y) = some (.ms (b0 + slot) 0 0 es.length, s1) := by
    unfold appendV
    rw [hy, rowsOf_d hw]
    rcases hx with hx | hx | hx <;> simp only [hx, if_neg hne', List.map_nil, List.nil_append, rowsV_length, hf, hr, Bool.and_self, if_true, hs, Option.map_some]
  refine ops_cons (fun call => ?_) h
  simp only [runOper, wants, runOp, key, Option.map_some]
/-- A call that hands back new blocks. -/
theorem oN {f : Nat} {args : List Opd} {as : List V} {fz : List Nat} {r0 v : V} {bs s2 : Store} (hc : convArgs s (flagsOf p f) (args.map (ev e)) = some (as, fz)) (hr : refsL as = []) (hret : Ret p (.fn f) as [] r0 bs) (hv : seeV (ren (backOf [] bs s.length) r0) some = some v)
    (hs : seeS (storeBack [] bs (if lends [] bs r0 then s else closeB s fz) (backOf [] bs s.length)) some = some s2) (h : Ops p b0 os (put e d v) s2 Q) : Ops p b0 (⟨d, .call f args, none⟩ :: os) e s Q := by
  rw [seeV_eq] at hv; injection hv with hv; subst hv
  rw [seeS_eq] at hs; injection hs with hs; subst hs
  obtain ⟨e', s', hq, hrun⟩ := h
  refine ⟨e', s', hq, (hret.and hrun).mono fun n hn => ?_⟩
  have hren : renL (pos []) as = as := renL_norefs hr
  have hcall : callOut (callN p n) (.fn f) (flagsOf p f) (args.map (ev e)) s = some (ren (backOf [] bs s.length) r0, storeBack [] bs (if lends [] bs r0 then s else closeB s fz) (backOf [] bs s.length)) := by
    have hreach : reach s (budget s) [] [] = [] := rfl
    simp only [callOut, hc, rootsT, hr, List.append_nil, hreach]
    simp only [callIds, List.all_nil, if_true, tgtAt, hren, pack, List.map_nil, hn.1]
    simp only [List.length_nil, Nat.zero_le, List.take_zero, allS, List.all_nil, and_self, if_true]
  simp only [runOps, runOper, wants, runOp, hcall, Option.map_some]
  exact hn.2
end
theorem ret_split {f : Nat} {fn : VFun} {rest : List V} {x y r : V} (hf : p f = some fn) (hs : fn.split = true)
    (h1 : Run p 0 fn.body (argEnv 0 (.nils :: rest)) [] fun o e s => fin fn.keep 0 fn.res o e s = some (x, [])) (h2 : Run p 0 fn.body (argEnv 0 (.non :: rest)) [] fun o e s => fin fn.keep 0 fn.res o e s = some (y, []))
    (hr : (if bare x && bare y then some (V.emp) else match norm x, norm y with | .d a, .d b => if beqD a b then some (.d a) else none | _, _ => none) = some r) : Ret p (.fn f) (.d (.slice []) :: rest) [] r [] := by
  obtain ⟨o1, e1, s1, q1, n1, r1⟩ := h1
  obtain ⟨o2, e2, s2, q2, n2, r2⟩ := h2
  refine ⟨max n1 n2 + 1, fun n hn => ?_⟩
  obtain ⟨n, rfl⟩ : ∃ i, n = i + 1 := ⟨n - 1, by omega⟩
  have k1 := r1 n (by omega)
  have k2 := r2 n (by omega)
  have g1 : runFn p (callN p n) n fn (.nils :: rest) [] = some (x, []) := by
    simp only [runFn, List.length_nil, k1]
    cases o1 <;> first | exact q1 | (simp [fin] at q1)
  have g2 : runFn p (callN p n) n fn (.non :: rest) [] = some (y, []) := by
    simp only [runFn, List.length_nil, k2]
    cases o2 <;> first | exact q2 | (simp [fin] at q2)
  simp only [callN, hf, hs, if_true, g1, g2]
  split at hr
  · rename_i hb; rw [if_pos hb]; injection hr with hr; rw [hr]
  · rename_i hb; rw [if_neg hb]
    split at hr <;> try (cases hr; done)
    rename_i a b ha hbb
    simp only [ha, hbb]
    split at hr <;> try (cases hr; done)
    rename_i hab
    injection hr with hr
    rw [if_pos hab, hr]
theorem ret_whole {f : Nat} {fn : VFun} {args : List V} {bs bs' : Store} {r : V} (hf : p f = some fn) (hs : ∀ rest, args ≠ .d (.slice []) :: rest)
    (h : Run p bs.length fn.body (argEnv 0 args) bs fun o e s => fin fn.keep bs.length fn.res o e s = some (r, bs')) : Ret p (.fn f) args bs r bs' := by
  obtain ⟨o, e, s, hq, n0, hr⟩ := h
  refine ⟨n0 + 1, fun n hn => ?_⟩
  obtain ⟨n, rfl⟩ : ∃ i, n = i + 1 := ⟨n - 1, by omega⟩
  have hr := hr n (by omega)
  have g : runFn p (callN p n) n fn args bs = some (r, bs') := by
    simp only [runFn, hr]
    cases o <;> first | exact hq | (simp [fin] at hq)
  simp only [callN, hf]
  split
  · split
    · exact absurd rfl (hs _)
    · exact g
  · exact g
/-- What a function hands back, seen. -/
def seeF (r : Option (V × Store)) : Option (V × Store) :=
  match r with
  | some (x, s) => seeV x fun x => seeS s fun s => some (x, s)
  | none => none
theorem fe {keep : Bool} {n : Nat} {res : List VRes} {o : Out} {e : Env} {s bs bs' : Store} {v r : V} (h : seeF (fin keep n res o e s) = some (v, bs)) (hv : v = r) (hb : bs = bs') : fin keep n res o e s = some (r, bs') := by
  subst hv; subst hb
  unfold seeF at h
  split at h
  · rename_i x s' hx
    rw [seeV_eq, seeS_eq] at h
    rw [hx]; exact h
  · cases h
/-- A new row is handed back. -/
theorem fin_ms {t n esz v : Nat} {ro : Bool} {es : List D} {e : Env} {s : Store} (h : e t = .ms 0 v 0 n) (hs : getB s 0 = some (.rows v ro esz (rowsV es))) : fin true 0 [.t t] .ret e s = some (.ms 0 v 0 n, [some (.rows v ro esz (rowsV es))]) := by
  have hg : gcIds s 0 [0] = [0] := by
    have : gcIds s 0 [0] = reach s (budget s) [0] [] := rfl
    rw [this]; exact reach_one hs (refsR_rowsV es)
  have hr : refs (.ms 0 v 0 n) = [0] := rfl
  have hp : pos [0] 0 = some 0 := rfl
  simp only [fin, results, resOf, h, oneOf, leave, if_true, hr, hg, ren, hp, pack, List.map_cons, List.map_nil, hs, Option.map_some, renB, ren_rowsV]
/-- Data are handed back. -/
theorem fin_data {t : Nat} {e : Env} {s : Store} {d : D} {fz : List Nat} (h : toD s depthD (e t) = some (d, fz)) : fin false 0 [.t t] .ret e s = some (.d d, []) := by
  have hg : ∀ s : Store, gcIds s 0 [] = [] := fun s => rfl
  simp only [fin, results, resOf, oneOf, leave, Bool.false_eq_true, if_false, h, hg, pack, List.map_nil]
theorem toD_row {s : Store} {id ver k esz : Nat} {ro : Bool} {es : List D} (hb : getB s id = some (.rows ver ro (esz + 1) (rowsV es))) (hk : k = es.length) (ho : es.all cellsOk = true) : toD s depthD (.ms id ver 0 k) = some (.slice es, [id]) := toD_ms (n := 28) hb hk ho
/-! ### Division -/
section
variable {b0 : Nat} {d : Option Nat} {os : List VOper} {e : Env} {s : Store} {k : IntKind} {x y : Opd} {c : Cmp} {m n : Int}
theorem oq {Q : Env → Store → Prop} (hx : ev e x = .d (.int k m)) (hy : ev e y = .d (.int k n)) (hn : n ≠ 0) (h : Ops p b0 os (put e d (.d (.int k (k.wrap (m.tdiv n))))) s Q) : Ops p b0 (⟨d, .bin .quo c x y, none⟩ :: os) e s Q :=
  ops_cons (fun call => by simp [runOper, wants, runOp, hx, hy, bin, binInt, hn]) h
theorem om {Q : Env → Store → Prop} (hx : ev e x = .d (.int k m)) (hy : ev e y = .d (.int k n)) (hn : n ≠ 0) (h : Ops p b0 os (put e d (.d (.int k (m.tmod n)))) s Q) : Ops p b0 (⟨d, .bin .rem c x y, none⟩ :: os) e s Q :=
  ops_cons (fun call => by simp [runOper, wants, runOp, hx, hy, bin, binInt, hn]) h
theorem fq {Q : Env → Store → List Foot → Prop} (hx : ev e x = .d (.int k m)) (hy : ev e y = .d (.int k n)) (hn : n ≠ 0) (h : OpsF p b0 os (put e d (.d (.int k (k.wrap (m.tdiv n))))) s fun e' s' fs => Q e' s' (footOper false (flagsOf p) b0 ⟨d, .bin .quo c x y, none⟩ e s s :: fs)) : OpsF p b0 (⟨d, .bin .quo c x y, none⟩ :: os) e s Q :=
  fone (P := fun e' s' => e' = put e d (.d (.int k (k.wrap (m.tdiv n)))) ∧ s' = s) (oq hx hy hn (ops_nil ⟨rfl, rfl⟩)) (fun _ _ h => h) h
theorem fm {Q : Env → Store → List Foot → Prop} (hx : ev e x = .d (.int k m)) (hy : ev e y = .d (.int k n)) (hn : n ≠ 0) (h : OpsF p b0 os (put e d (.d (.int k (m.tmod n)))) s fun e' s' fs => Q e' s' (footOper false (flagsOf p) b0 ⟨d, .bin .rem c x y, none⟩ e s s :: fs)) : OpsF p b0 (⟨d, .bin .rem c x y, none⟩ :: os) e s Q :=
  fone (P := fun e' s' => e' = put e d (.d (.int k (m.tmod n))) ∧ s' = s) (om hx hy hn (ops_nil ⟨rfl, rfl⟩)) (fun _ _ h => h) h
end
theorem roomy_small {n b : Nat} (h : n ≤ 1000000) (hb : b ≤ 1000) : roomy n b = true := by
  have : (2 * n + 768) * b ≤ 2000768 * 1000 := Nat.mul_le_mul (by omega) hb
  simp only [roomy, Bool.and_eq_true, decide_eq_true_eq]
  have e1 : (2 : Nat) ^ 47 = 140737488355328 := by decide
  have e2 : (2 : Nat) ^ 46 = 70368744177664 := by decide
  omega
/-- A new row. -/
theorem omk {b0 : Nat} {d : Option Nat} {os : List VOper} {e : Env} {s s1 : Store} {Q : Env → Store → Prop} {slot esz bytes n m : Nat} {z : List V} {l c : Opd} (hl : idx (ev e l) = some n) (hc : idx (ev e c) = some m) (hnm : n ≤ m) (hr : roomy m bytes = true) (hz : z.all scalarV = true) (hzl : z.length = esz)
    (hs : (newB s (b0 + slot) (.rows 0 false esz (zeroRows n z))).bind (fun s => seeS s some) = some s1) (h : Ops p b0 os (put e d (.ms (b0 + slot) 0 0 n)) s1 Q) : Ops p b0 (⟨d, .mkslice slot esz bytes z l c, none⟩ :: os) e s Q := by
  have hs : newB s (b0 + slot) (.rows 0 false esz (zeroRows n z)) = some s1 := by
    cases hq : newB s (b0 + slot) (.rows 0 false esz (zeroRows n z)) with
    | none => rw [hq] at hs; cases hs
    | some q => rw [hq] at hs; simp only [Option.bind_some, seeS_eq] at hs; exact hs
  refine ops_cons (fun call => ?_) h
  simp only [runOper, wants, runOp, hl, hc, hnm, hr, hz, hzl, and_self, if_true, hs, Option.map_some]
/-- Rows of known length, looked at. -/
def seeRows {α : Sort _} : List (List V) → (List (List V) → α) → α
  | [], K => K []
  | r :: rs, K => seeVs r fun r => seeRows rs fun rs => K (r :: rs)
theorem seeRows_eq {α : Sort _} : ∀ (rs : List (List V)) (K : List (List V) → α), seeRows rs K = K rs
  | [], K => rfl
  | r :: rs, K => by simp only [seeRows, seeVs_eq, seeRows_eq rs]
def seeL {α : Sort _} : Store → (Store → α) → α
  | [], K => K []
  | none :: s, K => seeL s fun s => K (none :: s)
  | some (.rows v ro e els) :: s, K => seeRows els fun els => seeL s fun s => K (some (.rows v ro e els) :: s)
  | some (.map es) :: s, K => seeL s fun s => K (some (.map es) :: s)
  | some (.loop st j env ps a b) :: s, K => seeL s fun s => K (some (.loop st j env ps a b) :: s)
theorem seeL_eq {α : Sort _} : ∀ (s : Store) (K : Store → α), seeL s K = K s
  | [], K => rfl
  | none :: s, K => by simp only [seeL, seeL_eq s]
  | some (.rows v ro e els) :: s, K => by simp only [seeL, seeRows_eq, seeL_eq s]
  | some (.map es) :: s, K => by simp only [seeL, seeL_eq s]
  | some (.loop st j env ps a b) :: s, K => by simp only [seeL, seeL_eq s]
def sweepL (k : Nat) (live : List Nat) (e : Env) (s : Store) : Option (List V × Store) :=
  match sweepTo k live e s with
  | some (vs, s) => seeL s fun s => some (vs, s)
  | none => none
theorem lhl {live : List Nat} {body : VCode} {e : Env} {s s1 : Store} {vs : List V} {K : List Fr} {Q : Out → Env → Store → Prop} (h : sweepL k live e s = some (vs, s1)) (hb : Run p k body (envOf (live.zip vs)) s1 (cont p k (.loop live body :: K) Q)) : Loop p k live body e s (cont p k K Q) := by
  refine loop_head ?_ hb
  unfold sweepL at h
  split at h
  · rename_i x hx; rw [seeL_eq] at h; rw [hx]; exact h
  · cases h
/-- The store, seen anew. -/
theorem Ops.see {b0 : Nat} {os : List VOper} {e : Env} {s s1 : Store} {Q : Env → Store → Prop} (hs : seeL s some = some s1) (h : Ops p b0 os e s1 Q) : Ops p b0 os e s Q := by
  rw [seeL_eq] at hs; injection hs with hs; subst hs; exact h
/-! ### Calls with lent blocks -/
section
variable {b0 : Nat} {d : Option Nat} {os : List VOper} {e : Env} {s s2 : Store}
theorem callOut_ref {t t' : Tgt} {flags : List Bool} {args as as' : List V} {fz ids : List Nat} {r0 v : V} {bs bs0 : Store} (hc : convArgs s flags args = some (as, fz)) (hi : reach s (budget s) (rootsT t ++ refsL as) [] = ids) (hd : (ids.all fun i => !fz.contains i) = true) (ht : tgtAt (pos ids) t = some t')
    (has : seeVs (renL (pos ids) as) some = some as') (hbs : seeS (pack s ids (pos ids)) some = some bs0) (hret : Ret p t' as' bs0 r0 bs) (hl : (decide (ids.length ≤ bs.length) && allS (bs.take ids.length)) = true) (hv : seeV (ren (backOf ids bs s.length) r0) some = some v)
    (hs : seeS (storeBack ids bs (if lends ids bs r0 then s else closeB s fz) (backOf ids bs s.length)) some = some s2) : Evt fun n => callOut (callN p n) t flags args s = some (v, s2) := by
  rw [seeV_eq] at hv; injection hv with hv; subst hv
  rw [seeS_eq] at hs; injection hs with hs; subst hs
  rw [seeVs_eq] at has; injection has with has; subst has
  rw [seeS_eq] at hbs; injection hbs with hbs; subst hbs
  refine Evt.mono hret fun n hn => ?_
  simp only [Bool.and_eq_true, decide_eq_true_eq] at hl
  simp only [callOut, hc, hi, callIds, hd, if_true, ht, hn, hl, and_self]
theorem oR {Q : Env → Store → Prop} {f : Nat} {args : List Opd} {as as' : List V} {fz ids : List Nat} {r0 v : V} {bs bs0 : Store} (hc : convArgs s (flagsOf p f) (args.map (ev e)) = some (as, fz)) (hi : reach s (budget s) (refsL as) [] = ids) (hd : (ids.all fun i => !fz.contains i) = true)
    (has : seeVs (renL (pos ids) as) some = some as') (hbs : seeS (pack s ids (pos ids)) some = some bs0) (hret : Ret p (.fn f) as' bs0 r0 bs) (hl : (decide (ids.length ≤ bs.length) && allS (bs.take ids.length)) = true) (hv : seeV (ren (backOf ids bs s.length) r0) some = some v)
    (hs : seeS (storeBack ids bs (if lends ids bs r0 then s else closeB s fz) (backOf ids bs s.length)) some = some s2) (h : Ops p b0 os (put e d v) s2 Q) : Ops p b0 (⟨d, .call f args, none⟩ :: os) e s Q := by
  have hcall := callOut_ref (t := .fn f) hc hi hd rfl has hbs hret hl hv hs
  obtain ⟨e', s', hq, hrun⟩ := h
  exact ⟨e', s', hq, (hcall.and hrun).mono fun n hn => by simp only [runOps, runOper, wants, runOp, hn.1, Option.map_some]; exact hn.2⟩
/-- A call of a function value. -/
theorem oV {Q : Env → Store → Prop} {fv : Opd} {t t' : Tgt} {xa xb : List V} {args : List Opd} {as as' : List V} {fz ids : List Nat} {r0 v : V} {bs bs0 : Store} (ht0 : target (ev e fv) = some (t, xa, xb)) (hc : convArgs s (match t with | .fn f => flagsOf p f | .round _ => []) (xa ++ args.map (ev e) ++ xb) = some (as, fz)) (hi : reach s (budget s) (rootsT t ++ refsL as) [] = ids) (hd : (ids.all fun i => !fz.contains i) = true) (ht : tgtAt (pos ids) t = some t')
    (has : seeVs (renL (pos ids) as) some = some as') (hbs : seeS (pack s ids (pos ids)) some = some bs0) (hret : Ret p t' as' bs0 r0 bs) (hl : (decide (ids.length ≤ bs.length) && allS (bs.take ids.length)) = true) (hv : seeV (ren (backOf ids bs s.length) r0) some = some v)
    (hs : seeS (storeBack ids bs (if lends ids bs r0 then s else closeB s fz) (backOf ids bs s.length)) some = some s2) (h : Ops p b0 os (put e d v) s2 Q) : Ops p b0 (⟨d, .callv fv args, none⟩ :: os) e s Q := by
  have hcall := callOut_ref hc hi hd ht has hbs hret hl hv hs
  obtain ⟨e', s', hq, hrun⟩ := h
  refine ⟨e', s', hq, (hcall.and hrun).mono fun n hn => ?_⟩
  have h1 := hn.1
  cases t with
  | fn f => simp only [runOps, runOper, wants, runOp, ht0] at h1 ⊢; simp only [h1, Option.map_some]; exact hn.2
  | round id => simp only [runOps, runOper, wants, runOp, ht0] at h1 ⊢; simp only [h1, Option.map_some]; exact hn.2
end
/-- Appending to a row of one's own. -/
theorem oam {b0 : Nat} {d : Option Nat} {os : List VOper} {e : Env} {s s1 : Store} {Q : Env → Store → Prop} {slot esz bytes id ver len : Nat} {x y : Opd} {els ys : List (List V)} (hx : ev e x = .ms id ver 0 len) (hy : rowsOf s esz (ev e y) = some ys) (hb : getB s id = some (.rows ver false esz els)) (hl : len ≤ els.length) (hne : ys.isEmpty = false)
    (hf : (ys.all fun r => r.length == esz && r.all scalarV) = true) (hr : roomy (len + ys.length) bytes = true) (hs : seeS (setB s id (.rows (ver + 1) false esz (els.take len ++ ys))) some = some s1) (h : Ops p b0 os (put e d (.ms id (ver + 1) 0 (len + ys.length))) s1 Q) : Ops p b0 (⟨d, .append slot esz bytes x y, none⟩ :: os) e s Q := by
  rw [seeS_eq] at hs; injection hs with hs; subst hs
  have hne' : ys ≠ [] := by rintro rfl; simp at hne
  have key : appendV s (b0 + slot) esz bytes (ev e x) (ev e y) = some (.ms id (ver + 1) 0 (len + ys.length), setB s id (.rows (ver + 1) false esz (els.take len ++ ys))) := by
    unfold appendV
    rw [hy]
    simp only [hx, hb, Nat.zero_add, hl, and_self, if_true, if_neg hne', hf, hr]
  refine ops_cons (fun call => ?_) h
  simp only [runOper, wants, runOp, key, Option.map_some]
/-- Appending to nothing, rows known. -/
theorem oak {b0 : Nat} {d : Option Nat} {os : List VOper} {e : Env} {s s1 : Store} {Q : Env → Store → Prop} {slot esz bytes : Nat} {x y : Opd} {es : List D} {ys : List (List V)} (hx : (match ev e x with | .nils => some [] | .emp => some [] | .lit es => some es | _ => none) = some es) (hy : rowsOf s esz (ev e y) = some ys) (hne : ys.isEmpty = false)
    (hf : (((es.map fun e => e.cells.map V.d) ++ ys).all fun r => r.length == esz && r.all scalarV) = true) (hr : roomy ((es.map fun e => e.cells.map V.d) ++ ys).length bytes = true) (hs : (newB s (b0 + slot) (.rows 0 false esz ((es.map fun e => e.cells.map V.d) ++ ys))).bind (fun s => seeS s some) = some s1)
    (h : Ops p b0 os (put e d (.ms (b0 + slot) 0 0 ((es.map fun e => e.cells.map V.d) ++ ys).length)) s1 Q) : Ops p b0 (⟨d, .append slot esz bytes x y, none⟩ :: os) e s Q := by
  have hne' : ys ≠ [] := by rintro rfl; simp at hne
  have hs : newB s (b0 + slot) (.rows 0 false esz ((es.map fun e => e.cells.map V.d) ++ ys)) = some s1 := by
    cases hq : newB s (b0 + slot) (.rows 0 false esz ((es.map fun e => e.cells.map V.d) ++ ys)) with
    | none => rw [hq] at hs; cases hs
    | some q => rw [hq] at hs; simp only [Option.bind_some, seeS_eq] at hs; exact hs
  have key : appendV s (b0 + slot) esz bytes (ev e x) (ev e y) = some (.ms (b0 + slot) 0 0 ((es.map fun e => e.cells.map V.d) ++ ys).length, s1) := by
    unfold appendV
    rw [hy]
    split at hx <;> try (cases hx; done)
    all_goals (rename_i hx0; injection hx with hx; subst hx; simp only [hx0, if_neg hne']; (try simp only [List.map_nil, List.nil_append] at hf hr hs ⊢); simp only [hf, hr, Bool.and_self, if_true, hs, Option.map_some])
  refine ops_cons (fun call => ?_) h
  simp only [runOper, wants, runOp, key, Option.map_some]
/-- A round more. -/
theorem lh {live : List Nat} {body : VCode} {e : Env} {s s1 : Store} {vs : List V} {K : List Fr} {Q : Out → Env → Store → Prop} (h : sweepTo k live e s = some (vs, s1)) (hb : Run p k body (envOf (live.zip vs)) s1 (cont p k (.loop live body :: K) Q)) : Loop p k live body e s (cont p k K Q) := loop_head h hb
attribute [irreducible] Ops OpsF Run Loop Ret cont Head
end Go.Proofs.YtboekhenldifhaaGreat
