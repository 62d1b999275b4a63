/- A function's run, a round's run: what the machine answers, the model does. -/
import Derived.Test.YtboekhenldifhaaGreatZvDraw
import Derived.Test.YtboekhenldifhaaGreatZvRange
set_option linter.unusedSimpArgs false
set_option linter.unusedVariables false
namespace Go.Proofs.YtboekhenldifhaaGreat
open Go.RowKit
variable {mu : Bool}
variable {P : Program} {fo : Nat → Option FuncId} {K K0 : Known} {ρ ρ0 : Places} {w w0 : World} {tr : FuncId → Option Nat} {base N : Nat} {s s' s0 bs : Store} {vv : Nat → Option (Nat × Nat)}
/-- What the loaded program is to the machine. -/
structure ProgOK (P : Program) (fo : Nat → Option FuncId) (p : VProg) : Prop where
  mixed : P.follows .mixedOrders = true
  fns : FnOK P fo
  comp : ∀ f fn g, p f = some fn → fo f = some g → ∃ fnM lives tr, (∀ g f, tr g = some f → fo f = some g) ∧ P.funcs[g]? = some fnM ∧ compFn P tr fn.byRef fn.keep fn.split lives fnM = some fn

/-! ### The start -/
theorem argEnv_get : ∀ (xs : List V) (i t : Nat), argEnv i xs t = if i ≤ t then xs.getD (t - i) .poison else .poison
  | [], i, t => by simp [argEnv, e0]
  | x :: xs, i, t => by
    simp only [argEnv, upd]
    by_cases h : t = i
    · subst h; simp
    · have : Nat.beq t i = false := by cases hq : Nat.beq t i with | false => rfl | true => exact absurd (Nat.eq_of_beq_eq_true hq) h
      simp only [this, cond_false, argEnv_get xs (i + 1) t]
      by_cases h1 : i + 1 ≤ t
      · rw [if_pos h1, if_pos (by omega)]
        have : t - i = (t - (i + 1)) + 1 := by omega
        rw [this]; simp
      · rw [if_neg h1, if_neg (by omega)]
theorem start_env {args : List V} {vargs : Array Value} {n : Nat} (h : RVs fo K ρ vv args vargs.toList) : RE fo K ρ vv (argEnv 0 args) (vargs ++ Array.replicate n undef) := by
  intro t
  rw [argEnv_get, if_pos (Nat.zero_le _), Nat.sub_zero]
  cases ht : args[t]? with
  | none => simp only [List.getD_eq_getElem?_getD, ht, Option.getD_none]; exact .poison _
  | some x =>
    obtain ⟨v, h1, h2⟩ := h.get ht
    have hlt : t < vargs.size := by have := (List.getElem?_eq_some_iff.1 h1).1; simpa using this
    have e : (vargs ++ Array.replicate n undef).getD t undef = v := by
      rw [Array.getD_eq_getD_getElem?, Array.getElem?_append_left hlt]
      simp only [Array.getElem?_toList] at h1
      rw [h1]; rfl
    rw [e]
    simp only [List.getD_eq_getElem?_getD, ht, Option.getD_some]; exact h2
theorem start_inv {args : List V} {vargs : Array Value} (hS : RS P fo base K ρ bs w) (h : RVs fo K ρ (vo bs) args vargs.toList) : Inv P fo base N K ρ bs w (argEnv 0 args) bs { tmps := vargs ++ Array.replicate (N - vargs.size) undef, defers := [] } w :=
  ⟨K, ρ, hS, .refl, start_env h, by simp; omega, [], rfl, List.nodup_nil, by simp⟩

/-! ### The end -/
theorem run_mapM {α : Type} {f : α → Sem Value} : ∀ (l : List α) (vs : List Value), l.length = vs.length → (∀ (k : Nat) a v, l[k]? = some a → vs[k]? = some v → (f a).run P w = .ok v w) → (l.mapM f).run P w = .ok vs w
  | [], [], _, _ => by simp [Sem.run_pure]
  | [], _ :: _, h, _ => by simp at h
  | _ :: _, [], h, _ => by simp at h
  | a :: l, v :: vs, hl, h => by
    have h0 := h 0 a v rfl rfl
    have h1 := run_mapM l vs (by simpa using hl) fun k a v h1 h2 => h (k + 1) a v (by simpa using h1) (by simpa using h2)
    simp only [List.mapM_cons, Sem.run_bind, h0, Result.andThen_ok, h1, Sem.run_pure]
theorem ptr_of_load {agg : Bool} {n : Nat} {x r : V} {v : Value} (hx : RV fo K ρ vv x v) (h : loadV s agg n x = some r) : ∃ a, v = .pointer (some a) := by
  unfold loadV at h
  split at h
  · obtain ⟨B, o, vs, rfl, _⟩ := hx.iptr_inv; exact ⟨_, rfl⟩
  · obtain ⟨a, v0, e', rfl, _⟩ := hx.ptr_inv; exact ⟨_, rfl⟩
  · cases h
theorem results_get : ∀ {rs : List VRes} {e : Env} {s : Store} {xs : List V}, results e s rs = some xs → xs.length = rs.length ∧ ∀ (k : Nat) r, rs[k]? = some r → ∃ x, xs[k]? = some x ∧ resOf e s r = some x
  | [], e, s, xs, h => by simp only [results] at h; injection h with h; subst h; exact ⟨rfl, by simp⟩
  | r :: rs, e, s, xs, h => by
    simp only [results] at h
    split at h <;> try (cases h; done)
    rename_i x xs' h1 h2
    injection h with h; subst h
    obtain ⟨a1, a2⟩ := results_get h2
    refine ⟨by simp [a1], fun k r' hk => ?_⟩
    cases k with
    | zero => simp only [List.getElem?_cons_zero] at hk; injection hk with hk; subst hk; exact ⟨x, rfl, h1⟩
    | succ k => obtain ⟨y, b1, b2⟩ := a2 k r' (by simpa using hk); exact ⟨y, by simpa using b1, b2⟩
def resSem (tmps : Array Value) : ResultVar → Sem Value
  | .tmp t => pure (tmps.getD t undef)
  | .cell a t => do loadVar t (← asAddr (tmps.getD a undef))
theorem results_eq (fnM : Func) (tmps : Array Value) : Go.results fnM tmps = (do let vs ← fnM.results.mapM (resSem tmps); pure (if h : vs.size = 1 then vs[0] else .tuple vs)) := rfl
theorem results_spec {fnM : Func} {e : Env} {tmps : Array Value} {rs : List VRes} {xs : List V} (hS : RS P fo base K ρ s w) (hE : RE fo K ρ (vo s) e tmps) (hc : fnM.results.toList.mapM (compRes P) = some rs) (h : results e s rs = some xs) :
    ∃ v, (Go.results fnM tmps).run P w = .ok v w ∧ RV fo K ρ (vo s) (oneOf xs) v := by
  obtain ⟨l1, g1⟩ := mapM_get hc
  obtain ⟨l2, g2⟩ := results_get h
  -- each result, run
  have one : ∀ (k : Nat) r, fnM.results.toList[k]? = some r → ∃ x v, xs[k]? = some x ∧ RV fo K ρ (vo s) x v ∧ (resSem tmps r).run P w = .ok v w := fun k r hk => by
    obtain ⟨y, h1, h2⟩ := g1 k r hk
    obtain ⟨x, h3, h4⟩ := g2 k y h2
    cases r with
    | tmp t =>
      simp only [compRes] at h1; injection h1 with h1; subst h1
      simp only [resOf] at h4; injection h4 with h4; subst h4
      exact ⟨_, _, h3, hE t, by simp [resSem, Sem.run_pure]⟩
    | cell a t =>
      simp only [compRes, Option.bind_eq_bind, Option.bind_eq_some_iff] at h1
      obtain ⟨b, hb, n, hn, h1⟩ := h1
      split at h1 <;> try (cases h1; done)
      rename_i hbn
      injection h1 with h1; subst h1
      simp only [resOf] at h4
      have hagg : b = false → n = 1 := fun hh => by subst hh; simpa using hbn
      obtain ⟨z, q1, q2⟩ := load_spec hS hb hn hagg (hE a) h4
      obtain ⟨ad, had⟩ := ptr_of_load (hE a) h4
      refine ⟨x, z, h3, q2, ?_⟩
      simp only [resSem]
      rw [had] at q1 ⊢
      simpa [Instr.loadAt, Instr.sureAddr, asAddr, Sem.run_bind, Sem.run_pure, Result.andThen] using q1
  have hlen : xs.length = fnM.results.toList.length := by omega
  obtain ⟨vs, hvl, hvs⟩ : ∃ vs : List Value, vs.length = xs.length ∧ ∀ (k : Nat) r v, fnM.results.toList[k]? = some r → vs[k]? = some v → ∃ x, xs[k]? = some x ∧ RV fo K ρ (vo s) x v ∧ (resSem tmps r).run P w = .ok v w := by
    have : ∀ n, n ≤ fnM.results.toList.length → ∃ vs : List Value, vs.length = n ∧ ∀ (k : Nat) r v, fnM.results.toList[k]? = some r → vs[k]? = some v → ∃ x, xs[k]? = some x ∧ RV fo K ρ (vo s) x v ∧ (resSem tmps r).run P w = .ok v w := by
      intro n
      induction n with
      | zero => intro _; exact ⟨[], rfl, by simp⟩
      | succ n ih =>
        intro hn
        obtain ⟨vs, a1, a2⟩ := ih (by omega)
        obtain ⟨x, v, b1, b2, b3⟩ := one n _ (List.getElem?_eq_getElem (by omega))
        refine ⟨vs ++ [v], by simp [a1], fun k r v' hk hv => ?_⟩
        by_cases hkn : k < n
        · rw [List.getElem?_append_left (by omega)] at hv
          exact a2 k r v' hk hv
        · have : k = n := by have := (List.getElem?_eq_some_iff.1 hv).1; simp at this; omega
          subst this
          rw [List.getElem?_append_right (by omega), a1] at hv
          simp at hv; subst hv
          have : r = fnM.results.toList[k] := by rw [List.getElem?_eq_getElem (by omega)] at hk; injection hk with hk; exact hk.symm
          subst this
          exact ⟨x, b1, b2, b3⟩
    obtain ⟨vs, a1, a2⟩ := this _ (Nat.le_refl _)
    exact ⟨vs, by omega, a2⟩
  have hrun := run_mapM (P := P) (w := w) (f := resSem tmps) fnM.results.toList vs (by omega) fun k a v h1 h2 => let ⟨x, _, _, h⟩ := hvs k a v h1 h2; h
  have hRVs : RVs fo K ρ (vo s) xs vs := .of_get hvl.symm fun k x v h1 h2 => by
    have hk : k < fnM.results.toList.length := by have := (List.getElem?_eq_some_iff.1 h1).1; omega
    obtain ⟨x', a1, a2, _⟩ := hvs k _ v (List.getElem?_eq_getElem hk) h2
    rw [h1] at a1; injection a1 with a1; subst a1; exact a2
  refine ⟨if h : vs.toArray.size = 1 then vs.toArray[0] else .tuple vs.toArray, ?_, ?_⟩
  · rw [results_eq, Array.mapM_eq_mapM_toList]
    change Sem.run P (Sem.bind (Sem.bind (List.mapM (resSem tmps) fnM.results.toList) (Sem.pure ∘ List.toArray)) _) w = _
    have h1 : Sem.run P (Sem.bind (List.mapM (resSem tmps) fnM.results.toList) (Sem.pure ∘ List.toArray)) w = .ok vs.toArray w := by
      change Sem.run P (List.mapM (resSem tmps) fnM.results.toList >>= fun vs => pure vs.toArray) w = _
      simp only [Sem.run_bind, hrun, Result.andThen_ok, Sem.run_pure]
    change Sem.run P ((Sem.bind (List.mapM (resSem tmps) fnM.results.toList) (Sem.pure ∘ List.toArray)) >>= fun vs => pure (if h : vs.size = 1 then vs[0] else .tuple vs)) w = _
    simp only [Sem.run_bind, h1, Result.andThen_ok, Sem.run_pure]
  · cases hRVs with
    | nil => simp [oneOf]; exact RV.mkTuple (xs := []) (vs := #[]) .nil
    | cons x v xs vs hx hs =>
      cases hs with
      | nil => simpa [oneOf] using hx
      | cons y u ys us hy hs =>
        have : ¬ (v :: u :: us).toArray.size = 1 := by simp
        rw [dif_neg this]
        exact RV.mkTuple (xs := x :: y :: ys) (.cons _ _ _ _ hx (.cons _ _ _ _ hy hs))
theorem leave_spec {keep : Bool} {r r' : V} {v : Value} (hS : RS P fo base K ρ s w) (hT : Stp base K0 ρ0 bs w0 K ρ s w) (hv : RV fo K ρ (vo s) r v) (h : leave keep bs.length r s = some (r', s')) : Done P fo base K0 ρ0 bs w0 r' s' (.returned v) w := by
  unfold leave at h
  split at h
  · injection h with h; injection h with h1 h2; subst h1; subst h2
    obtain ⟨g1, g2⟩ := gcIds_spec s bs.length (refs r)
    exact .mk' (hS.pack g1) (hT.pack g2) (hv.ren renOk_pack)
  · split at h <;> try (cases h; done)
    rename_i d fz hd
    injection h with h; injection h with h1 h2; subst h1; subst h2
    obtain ⟨K', c1, c2, c3, c4, c5⟩ := toD_close hS hv hd
    obtain ⟨g1, g2⟩ := gcIds_spec (closeB s fz) bs.length []
    exact .mk' (c1.pack g1) ((hT.trans (Stp.close (ids := fz) c2 c3 c4)).pack g2) (.d _ _ c5)

/-! ### The marks -/
theorem RS.mark {b : Nat} {o : Obj} (h : RS P fo base K ρ s w) (hb : w.heap[b]? = some (.deferred (some []))) (hn : ∀ id blk, getB s id = some blk → (ρ id).1 ≠ b) : RS P fo base K ρ s (w.putObj b o) where
  known B i v hv := by
    obtain ⟨c, t, z, h1, h2⟩ := h.known B i v hv
    refine ⟨c, t, z, (World.putObj_heap_other ?_).trans h1, h2⟩
    rintro rfl; rw [hb] at h1; cases h1
  blk id blk hid := by
    obtain ⟨h1, h2⟩ := h.blk id blk hid
    exact ⟨h1.mono (fun _ _ _ h => h) .refl (World.putObj_heap_other (hn id blk hid)) (fun h => h), h2⟩
  inj := h.inj
  base := by simpa using h.base
  one := h.one
theorem Stp.mark {b : Nat} {o : Obj} (h : Stp base K0 ρ0 bs w0 K ρ s w) (hb : w0.heap.size ≤ b) (hbase : base ≤ b) : Stp base K0 ρ0 bs w0 K ρ s (w.putObj b o) where
  known := h.known
  later := h.later
  below := ⟨h.below.os, h.below.tape, h.below.output, by simpa using h.below.size, fun k hk => (World.putObj_heap_other (by omega)).trans (h.below.block k hk)⟩
  frame B hB hn := (World.putObj_heap_other (by omega)).trans (h.frame B hB hn)
  img := h.img
  learn := h.learn
theorem leaves_marks {fnM : Func} {tmps : Array Value} {R : Ending → World → Prop} (hbase : base ≤ w0.heap.size) (hpost : ∀ w', RS P fo base K ρ s w' → Stp base K0 ρ0 bs w0 K ρ s w' → ∃ v, (Go.results fnM tmps).run P w' = .ok v w' ∧ R (.returned v) w') :
    ∀ (ds : List Nat) (w : World), RS P fo base K ρ s w → Stp base K0 ρ0 bs w0 K ρ s w → ds.Nodup → (∀ b ∈ ds, w0.heap.size ≤ b ∧ w.heap[b]? = some (.deferred (some [])) ∧ ∀ id blk, getB s id = some blk → (ρ id).1 ≠ b) →
      LeavesInM Fence.wide 0 P fnM tmps R (ds.map fun b => { target := .collected b, args := #[] }) .returning w
  | [], w, hS, hT, _, _ => hpost w hS hT
  | b :: ds, w, hS, hT, hn, h => by
    obtain ⟨h1, h2, h3⟩ := h b (by simp)
    refine ⟨by simp, .inl ⟨b, w.putObj b (.deferred none), rfl, run_takeDeferred h2, ?_⟩⟩
    refine leaves_marks hbase hpost ds _ (hS.mark h2 h3) (hT.mark h1 (by omega)) (List.nodup_cons.1 hn).2 fun b' hb' => ?_
    obtain ⟨q1, q2, q3⟩ := h b' (by simp [hb'])
    refine ⟨q1, (World.putObj_heap_other ?_).trans q2, q3⟩
    rintro rfl; exact (List.nodup_cons.1 hn).1 hb'

/-! ### A function -/
variable {p : VProg} {call : CallSem}
theorem runFn_ok (hp : ProgOK P fo p) (hcall : CallOK P fo base call) {fuel : Nat} {f : Nat} {g : FuncId} {fn : VFun} {args : List V} {vargs : Array Value} {r : V} (hpf : p f = some fn) (hg : fo f = some g) (hS : RS P fo base K ρ bs w) (hargs : RVs fo K ρ (vo bs) args vargs.toList)
    (h : runFn p call fuel fn args bs = some (r, s')) : CallsIn Fence.wide 0 P g vargs w (Done P fo base K ρ bs w r s') := by
  obtain ⟨fnM, lv, tr, htr, hfM, hcomp⟩ := hp.comp f fn g hpf hg
  simp only [compFn, Option.bind_eq_bind, Option.bind_eq_some_iff] at hcomp
  obtain ⟨body, hbody, hcomp⟩ := hcomp
  split at hcomp <;> try (cases hcomp; done)
  rename_i hdst
  simp only [Option.bind_eq_some_iff] at hcomp
  obtain ⟨rs, hrs, hcomp⟩ := hcomp
  injection hcomp with hcomp
  have hb : fn.body = (compCode P tr fn.keep body lv).1 := (congrArg VFun.body hcomp).symm
  have hres : fn.res = rs := (congrArg VFun.res hcomp).symm
  have hdst' : dstsOk fnM.ntmps (compCode P tr fn.keep body lv).1 = true := by simpa using hdst
  have hw : Open Fence.wide := .inl rfl
  unfold runFn at h
  rw [hb, hres] at h
  refine callsIn_of_wp_marks hfM hbody trivial ?_
  have post : ∀ out e s, (out = .normal ∨ out = .ret) → (match results e s rs with | some rs => leave fn.keep bs.length (oneOf rs) s | none => none) = some (r, s') →
      ∀ a' w', Inv P fo base fnM.ntmps K ρ bs w e s a' w' → bodyPostM Fence.wide 0 P fnM (Done P fo base K ρ bs w r s') (exitOf out) a' w' := fun out e s ho hl a' w' hI => by
    obtain ⟨K1, ρ1, h1, h2, h3, h4, ds, d1, d2, d3⟩ := hI
    split at hl <;> try (cases hl; done)
    rename_i xs hxs
    have key : LeavesInM Fence.wide 0 P fnM a'.tmps (Done P fo base K ρ bs w r s') a'.defers .returning w' := by
      rw [d1]
      refine leaves_marks hS.base (fun w'' q1 q2 => ?_) ds w' h1 h2 d2 d3
      obtain ⟨v, v1, v2⟩ := results_spec q1 h3 hrs hxs
      exact ⟨v, v1, leave_spec q1 q2 v2 hl⟩
    rcases ho with rfl | rfl <;> exact key
  split at h <;> try (cases h; done)
  rename_i out e s hne hrun
  refine sim_code hw hp.fns hcall htr (draw_ok hp.mixed hw hp.fns hcall htr) (range_ok hp.fns hcall htr) body lv hdst' (.inr rfl) (start_inv hS hargs) hrun (post out e s ?_ h)
  cases out with
  | normal => exact .inl rfl
  | ret => exact .inr rfl
  | exit id => exact (hne id rfl).elim

/-! ### A round -/
theorem envOf_mem : ∀ (l : List (Nat × V)) (t : Nat), envOf l t = .poison ∨ ∃ x, (t, x) ∈ l ∧ envOf l t = x
  | [], t => .inl rfl
  | (u, y) :: l, t => by
    have ih := envOf_mem l t
    simp only [envOf, List.foldr_cons, upd] at ih ⊢
    by_cases h : t = u
    · subst h; simp
    · have : Nat.beq t u = false := by cases hq : Nat.beq t u with | false => rfl | true => exact absurd (Nat.eq_of_beq_eq_true hq) h
      simp only [this, cond_false]
      exact ih.imp id fun ⟨x, h1, h2⟩ => ⟨x, by simp [h1], h2⟩
theorem params_env : ∀ (ps : List Nat) (xs : List V) (vs : List Value) {e : Env} {tmps : Array Value}, RVs fo K ρ vv xs vs → RE fo K ρ vv e tmps → (∀ t ∈ ps, t < tmps.size) →
    RE fo K ρ vv ((ps.zip xs).foldl (fun e (t, a) => upd e t a) e) ((ps.zip vs).foldl (fun tmps (t, a) => tmps.setIfInBounds t a) tmps) ∧ ((ps.zip vs).foldl (fun tmps (t, a) => tmps.setIfInBounds t a) tmps).size = tmps.size
  | [], _, _, _, _, _, he, _ => ⟨he, rfl⟩
  | p :: ps, _, _, _, _, .nil, he, _ => ⟨he, rfl⟩
  | p :: ps, _, _, e, tmps, .cons x v xs vs hx hs, he, hp => by
    simp only [List.zip_cons_cons, List.foldl_cons]
    obtain ⟨a1, a2⟩ := params_env ps xs vs hs (he.put hx (hp p (by simp))) (fun t ht => by simpa using hp t (by simp [ht]))
    exact ⟨a1, by simpa using a2⟩
theorem zip_foldl {α : Type} (ps : Array Nat) (vs : Array Value) (f : α → Nat × Value → α) (a : α) : (ps.zip vs).foldl f a = (ps.toList.zip vs.toList).foldl f a := by
  rw [← Array.foldl_toList]; simp
theorem runRound_ok (hp : ProgOK P fo p) (hcall : CallOK P fo base call) {fuel id : Nat} {args : List V} {vargs : Array Value} {r : V} (hS : RS P fo base K ρ bs w) (hargs : RVs fo K ρ (vo bs) args vargs.toList)
    (h : runRound p call fuel id args bs = some (r, s')) : Called P fo ρ (.round id) vargs w (Done P fo base K ρ bs w r s') := by
  unfold runRound at h
  split at h <;> try (cases h; done)
  rename_i j0 env params assign body hb0
  split at h <;> try (cases h; done)
  rename_i hlen
  simp only at h
  split at h <;> try (cases h; done)
  rename_i e1 s1 hrun1
  split at h <;> try (cases h; done)
  rename_i j1 env1 ps1 a1 b1 hb1
  split at h <;> try (cases h; done)
  rename_i out e2 s2 hrun2
  split at h <;> try (cases h; done)
  rename_i st2 j2 env2 ps2 a2 b2 hb2
  obtain ⟨hblk, hbs⟩ := hS.blk _ _ hb0
  have hvo : vo bs id = some (0, 0) := by simp [vo, hb0]
  generalize hpp : ρ id = pp at hblk hbs
  cases hblk with
  | loop _ _ _ _ _ _ B size l N c1 c2 c3 c4 c5 c6 c7 c8 c9 c10 =>
  obtain ⟨trA, lvA, muA, htA, hcA, hdA, hnA⟩ := c6
  obtain ⟨trB, lvB, muB, htB, hcB, hdB, hnB⟩ := c7
  have hB : (ρ id).1 = B := by rw [hpp]
  show ∃ l, w.heap[(ρ id).1]? = some (.loop l) ∧ vargs.size = l.params.size ∧ RoundIn Fence.wide 0 P (ρ id).1 l.fn _ l.assign l.body w _
  rw [hB]
  refine ⟨l, c1, ?_, ?_⟩
  · have e1 : args.length = vargs.size := by have := hargs.length; simpa using this
    have e2 : l.params.size = params.length := by rw [← c5]; simp
    omega
  · have hF : Open (Fence.wide.inRound B) := .inr ⟨B, rfl⟩
    refine roundIn_of_wpIn trivial ?_
    rw [zip_foldl]
    have hE0 : RE fo K ρ (vo bs) (envOf env) l.tmps := fun t => by
      rcases envOf_mem env t with hh | ⟨x, h1, h2⟩
      · rw [hh]; exact .poison _
      · rw [h2]; exact c4 t x h1
    rw [c5]
    obtain ⟨hE, hsz⟩ := params_env params args vargs.toList hargs hE0 c9
    have hI0 : Inv P fo base N K ρ bs w ((params.zip args).foldl (fun e (t, a) => upd e t a) (envOf env)) bs { tmps := (params.zip vargs.toList).foldl (fun tmps (t, a) => tmps.setIfInBounds t a) l.tmps, defers := [] } w :=
      ⟨K, ρ, hS, .refl, hE, Nat.le_trans c8 (Nat.le_of_eq hsz.symm), [], rfl, List.nodup_nil, by simp⟩
    rw [← hcA] at hrun1 hdA hnA
    refine sim_code hF hp.fns hcall htA (draw_ok hp.mixed hF hp.fns hcall htA) (range_ok hp.fns hcall htA) l.assign lvA hdA (.inl hnA) hI0 hrun1 fun a3 w3 hI3 => ?_
    -- the record is busy
    obtain ⟨K3, ρ3, k1, k2, k3, k4, k5⟩ := hI3
    have place : ∀ {K' : Known} {ρ' : Places} {s : Store} {w' : World}, Stp base K ρ bs w K' ρ' s w' → ∀ {st j env ps a b}, getB s id = some (.loop st j env ps a b) → (ρ' id).1 = B := fun {K' ρ' s w'} hT {st j env ps a b} hb => by
      obtain ⟨v', q1, q2, q3, q4⟩ := hT.later id 0 0 hvo
      rw [q3 (q4 rfl).symm, hB]
    have write : ∀ {K' : Known} {ρ' : Places} {s : Store} {w' : World} {st0 : Nat} {j0 : Jump} {env : List (Nat × V)} {ps : List Nat} {a b : VCode}, RS P fo base K' ρ' s w' → Stp base K ρ bs w K' ρ' s w' → getB s id = some (.loop st0 j0 env ps a b) →
        ∃ l, w'.heap[B]? = some (.loop l) ∧ stOf l.state = st0 ∧ ∀ (st : LoopState) (j : Jump), RS P fo base K' ρ' (setB s id (.loop (stOf st) j env ps a b)) (w'.putObj B (.loop { l with state := st, pending := jcode j })) ∧
          Stp base K' ρ' s w' K' ρ' (setB s id (.loop (stOf st) j env ps a b)) (w'.putObj B (.loop { l with state := st, pending := jcode j })) := fun {K' ρ' s w' st0 j0 env ps a b} hS' hT' hb => by
      have hpl := place hT' hb
      obtain ⟨hblk, _⟩ := hS'.blk _ _ hb
      generalize hqq : ρ' id = pp at hblk
      cases hblk with
      | loop _ _ _ _ _ _ B' size l' N' y1 y2 y3 y4 y5 y6 y7 y8 y9 y10 =>
      rw [hqq] at hpl; simp only at hpl; subst hpl
      refine ⟨l', y1, y2, fun st j => ?_⟩
      have hlt : B' < w'.heap.size := (Array.getElem?_eq_some_iff.1 y1).1
      refine RS.write (w' := w'.putObj B' (.loop { l' with state := st, pending := jcode j })) (b := .loop (stOf st) j env ps a b) (v0 := 0) (v1 := 0) (e := 0) hS' hb (by simp [vo, hb]) rfl (Nat.le_refl _) (fun _ => rfl)
        (by rw [hqq]; exact y10)
        (by rw [hqq]; exact ⟨rfl, rfl, rfl, by simp, fun k hk => World.putObj_heap_other (by have : k < B' := hk; omega)⟩)
        (by rw [hqq]; exact fun B hB => World.putObj_heap_other hB) (by simp) ?_
      rw [hqq]
      refine .loop (stOf st) j env ps a b _ _ { l' with state := st, pending := jcode j } N' (World.putObj_heap_same hlt) rfl rfl (fun t x hx => (y4 t x hx).mono (fun _ _ _ h => h) ?_) y5 y6 y7 y8 y9 y10
      intro id' v e hv
      refine ⟨v, ?_, Nat.le_refl _, fun _ => rfl, fun _ => rfl⟩
      rw [vo_set (getB_lt hb)]
      by_cases hid : id' = id
      · subst hid; simpa [vo, hb] using hv
      · rw [if_neg hid]; exact hv
    obtain ⟨l3, p1, p2, p3⟩ := write k1 k2 hb1
    have hready : l3.state = .ready := by cases hs : l3.state <;> simp [hs, stOf] at p2; rfl
    obtain ⟨b, hbb⟩ : ∃ b, getB s1 id = some b := ⟨_, hb1⟩
    obtain ⟨hblk1, _⟩ := k1.blk _ _ hb1
    have hpend : l3.pending = jcode j1 := by
      generalize hqq : ρ3 id = pp at hblk1
      have hpl := place k2 hb1
      cases hblk1 with
      | loop _ _ _ _ _ _ B' size l' N' y1 y2 y3 y4 y5 y6 y7 y8 y9 y10 =>
        rw [hqq] at hpl; simp only at hpl; subst hpl
        rw [p1] at y1; injection y1 with y1; injection y1 with y1; rw [y1]; exact y3
    obtain ⟨r1, r2⟩ := p3 .busy j1
    have hbegin := run_beginRound (P := P) p1 hready
    refine ⟨_, hbegin, ?_⟩
    have e3 : ({ l3 with state := .busy } : Loop) = { l3 with state := .busy, pending := jcode j1 } := by rw [← hpend]
    rw [e3]
    have hI3' : Inv P fo base N K ρ bs w e1 (setB s1 id (.loop 1 j1 env1 ps1 a1 b1)) a3 (w3.putObj B (.loop { l3 with state := .busy, pending := jcode j1 })) :=
      ⟨K3, ρ3, r1, k2.trans r2, k3.mono r2.known r2.later, k4, k5.step r2⟩
    rw [← hcB] at hrun2 hdB hnB
    refine sim_code hF hp.fns hcall htB (draw_ok hp.mixed hF hp.fns hcall htB) (range_ok hp.fns hcall htB) l.body lvB hdB (.inl hnB) hI3' hrun2 fun a4 w4 hI4 => ?_
    obtain ⟨K4, ρ4, m1, m2, m3, m4, m5⟩ := hI4
    obtain ⟨l4, u1, u2, u3⟩ := write m1 m2 hb2
    have fin : ∀ (st : LoopState) (j : Jump) (b : Bool) (jump : Option Code), jcode j = jump → (if jump.isNone then LoopState.ready else .done) = st → jump.isNone = b → leave true bs.length (.d (.bool b)) (setB s2 id (.loop (stOf st) j env2 ps2 a2 b2)) = some (r, s') →
        ∃ v w', (Instr.endRound B jump).run P w4 = .ok v w' ∧ Done P fo base K ρ bs w r s' (.returned v) w' := fun st j b jump hj hst hb hl => by
      subst hj; subst hst; subst hb
      obtain ⟨y1, y2⟩ := u3 (if (jcode j).isNone then .ready else .done) j
      refine ⟨_, _, run_endRound (jcode j) u1, ?_⟩
      exact leave_spec y1 (m2.trans y2) (.d _ _ (.bool _)) hl
    cases out with
    | normal => exact fin .ready .none true none rfl rfl rfl h
    | ret => exact fin .done .ret false (some .ret) rfl rfl rfl h
    | exit i => exact fin .done (.exit i) false (some (.exit i)) rfl rfl rfl h

/-! ### All calls -/
theorem RV.norm {x : V} {v : Value} (h : RV fo K ρ vv x v) : RV fo K ρ vv (norm x) v := by
  cases h with
  | nils => exact .d _ _ (.sliceE _ _ (fun _ => rfl))
  | emp a => exact .d _ _ (.sliceE _ _ (fun _ => rfl))
  | non a c => exact .d _ _ (.sliceE _ _ (by simp))
  | lit es a h => exact .d _ _ h
  | _ => simp only [YtboekhenldifhaaGreat.norm]; constructor <;> assumption
theorem RV.bare {x : V} {v : Value} (hb : bare x = true) (h : RV fo K ρ vv x v) : RV fo K ρ vv .emp v := by
  unfold YtboekhenldifhaaGreat.bare at hb
  split at hb
  · cases h; exact .emp _
  · exact h
  · cases h; exact .emp _
  · cases hb
theorem callN_ok (hp : ProgOK P fo p) : ∀ n, CallOK P fo base (callN p n)
  | 0 => fun t K ρ bs w args vargs r bs' _ _ h => by simp [callN] at h
  | n + 1 => fun t K ρ bs w args vargs r bs' hS hargs h => by
    have ih := callN_ok hp n
    cases t with
    | round id => exact runRound_ok hp ih hS hargs h
    | fn f =>
      intro g hg
      simp only [callN] at h
      split at h <;> try (cases h; done)
      rename_i fn hpf
      split at h
      · split at h
        · rename_i rest
          split at h <;> try (cases h; done)
          rename_i x y hx hy
          -- the first argument is empty: nil, or not
          have hdone : ∀ z z' : V, (∀ {K' : Known} {ρ' : Places} {v : Value}, RV fo K' ρ' (vo []) z v → RV fo K' ρ' (vo []) z' v) → ∀ e w', Done P fo base K ρ [] w z [] e w' → Done P fo base K ρ [] w z' [] e w' := fun z z' hz e w' ⟨v, K', ρ', q1, q2, q3, q4⟩ => ⟨v, K', ρ', q1, q2, q3, hz q4⟩
          have hconv : bs' = [] ∧ (∀ {K' : Known} {ρ' : Places} {v : Value}, RV fo K' ρ' (vo []) x v → RV fo K' ρ' (vo []) r v) ∧ (∀ {K' : Known} {ρ' : Places} {v : Value}, RV fo K' ρ' (vo []) y v → RV fo K' ρ' (vo []) r v) := by
            split at h
            · rename_i hb
              simp only [Bool.and_eq_true] at hb
              injection h with h; injection h with h1 h2; subst h1
              exact ⟨h2.symm, fun hv => hv.bare hb.1, fun hv => hv.bare hb.2⟩
            · split at h <;> try (cases h; done)
              rename_i a b ha hb
              split at h <;> try (cases h; done)
              rename_i hab
              injection h with h; injection h with h1 h2; subst h1
              have := beqD_eq hab; subst this
              exact ⟨h2.symm, fun hv => ha ▸ hv.norm, fun hv => hb ▸ hv.norm⟩
          obtain ⟨rfl, hcx, hcy⟩ := hconv
          have hvl : vargs.toList = vargs.toList := rfl
          generalize hvs : vargs.toList = vs at hargs
          cases hargs with
          | cons _ v0 _ vs hv0 hrest =>
          cases hv0 with | d _ _ hv0 =>
          cases hv0 with
          | slice es B o cap esz vs' h0 => exact absurd rfl h0
          | sliceE a cap ha =>
            cases a with
            | none =>
              have := ha rfl; subst this
              exact (runFn_ok hp ih hpf hg hS (by rw [hvs]; exact .cons _ _ _ _ .nils hrest) hx).mono (hdone _ _ hcx)
            | some a => exact (runFn_ok hp ih hpf hg hS (by rw [hvs]; exact .cons _ _ _ _ (.non a cap) hrest) hy).mono (hdone _ _ hcy)
        · exact runFn_ok hp ih hpf hg hS hargs h
      · exact runFn_ok hp ih hpf hg hS hargs h
end Go.Proofs.YtboekhenldifhaaGreat
