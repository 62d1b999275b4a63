/- More rules: any operation in a region that draws its order; maps, seen. -/
import Derived.Test.YtboekhenldifhaaGreatZvWp
/- More rules: any operation in a region that draws its order; maps, seen. -/
set_option linter.unusedSimpArgs false
set_option linter.unusedVariables false
namespace Go.Proofs.YtboekhenldifhaaGreat
variable {p : VProg} {k : Nat}
theorem fw {b0 : Nat} {o : VOper} {os : List VOper} {e e1 : Env} {s s1 : Store} {Q : Env → Store → List Foot → Prop} (h : Ops p b0 [o] e s fun e' s' => e' = e1 ∧ s' = s1) (hq : OpsF p b0 os e1 s1 fun e' s' fs => Q e' s' (footOper false (flagsOf p) b0 o e s s1 :: fs)) : OpsF p b0 (o :: os) e s Q := fone h (fun _ _ h => h) hq
def seeD {α : Sort _} (x : D) (K : D → α) : α :=
  match x with
  | .int k n => K (.int k n)
  | .bool b => K (.bool b)
  | .agg cs => K (.agg cs)
  | .slice cs => K (.slice cs)
  | .str cs => K (.str cs)
  | x => K x
theorem seeD_eq {α : Sort _} (x : D) (K : D → α) : seeD x K = K x := by
  unfold seeD
  split <;> rfl
def seeDs {α : Sort _} : List D → (List D → α) → α
  | [], K => K []
  | x :: xs, K => seeD x fun x => seeDs xs fun xs => K (x :: xs)
theorem seeDs_eq {α : Sort _} : ∀ (xs : List D) (K : List D → α), seeDs xs K = K xs
  | [], K => rfl
  | x :: xs, K => by simp only [seeDs, seeD_eq, seeDs_eq xs]
/-- A key, looked at. -/
def seeY {α : Sort _} (x : D) (K : D → α) : α :=
  match x with
  | .int k n => K (.int k n)
  | .bool b => K (.bool b)
  | .agg cs => seeDs cs fun cs => K (.agg cs)
  | .str cs => K (.str cs)
  | x => K x
theorem seeY_eq {α : Sort _} (x : D) (K : D → α) : seeY x K = K x := by
  unfold seeY
  split <;> first | rfl | simp only [seeDs_eq]
def seeM {α : Sort _} : List (D × V) → (List (D × V) → α) → α
  | [], K => K []
  | (a, x) :: xs, K => seeY a fun a => seeV x fun x => seeM xs fun xs => K ((a, x) :: xs)
theorem seeM_eq {α : Sort _} : ∀ (xs : List (D × V)) (K : List (D × V) → α), seeM xs K = K xs
  | [], K => rfl
  | (a, x) :: xs, K => by simp only [seeM, seeV_eq, seeY_eq, seeM_eq xs]
def seeX {α : Sort _} : Store → (Store → α) → α
  | [], K => K []
  | none :: s, K => seeX s fun s => K (none :: s)
  | some (.rows v ro e els) :: s, K => seeRows els fun els => seeX s fun s => K (some (.rows v ro e els) :: s)
  | some (.map es) :: s, K => seeM es fun es => seeX s fun s => K (some (.map es) :: s)
  | some (.loop st j env ps a b) :: s, K => seeX s fun s => K (some (.loop st j env ps a b) :: s)
theorem seeX_eq {α : Sort _} : ∀ (s : Store) (K : Store → α), seeX s K = K s
  | [], K => rfl
  | none :: s, K => by simp only [seeX, seeX_eq s]
  | some (.rows v ro e els) :: s, K => by simp only [seeX, seeRows_eq, seeX_eq s]
  | some (.map es) :: s, K => by simp only [seeX, seeM_eq, seeX_eq s]
  | some (.loop st j env ps a b) :: s, K => by simp only [seeX, seeX_eq s]
def seeRX (r : Option (Res × Store)) : Option (V × Store) :=
  match r with
  | some (.val x, s) => seeV x fun x => seeX s fun s => some (x, s)
  | some (.none, s) => seeX s fun s => some (skipV, s)
  | none => none
theorem seeRX_eq (r : Option (Res × Store)) : seeRX r = seeR r := by
  unfold seeRX seeR
  split <;> simp only [seeX_eq, seeS_eq]
/-- An operation, its store seen whole. -/
theorem ovx {b0 : Nat} {d : Option Nat} {os : List VOper} {e : Env} {s s1 : Store} {op : VOp} {x : V} {Q : Env → Store → Prop} (h1 : seeRX (runOp (fun _ _ _ => none) (fun _ => []) b0 op e s) = some (x, s1)) (h : Ops p b0 os (put e d x) s1 Q) : Ops p b0 (⟨d, op, none⟩ :: os) e s Q := ops_val (by rw [← seeRX_eq]; exact h1) h
def sweepX (k : Nat) (live : List Nat) (e : Env) (s : Store) : Option (List V × Store) :=
  match sweepTo k live e s with
  | some (vs, s) => seeX s fun s => some (vs, s)
  | none => none
theorem lhx {live : List Nat} {body : VCode} {e : Env} {s s1 : Store} {vs : List V} {K : List Fr} {Q : Out → Env → Store → Prop} (h : sweepX k live e s = some (vs, s1)) (hb : Run p k body (envOf (live.zip vs)) s1 (cont p k (.loop live body :: K) Q)) : Loop p k live body e s (cont p k K Q) := by
  refine loop_head ?_ (by unfold Head; exact hb)
  unfold sweepX at h
  split at h
  · rename_i x hx; rw [seeX_eq] at h; rw [hx]; exact h
  · cases h
section
variable {b0 : Nat} {d : Option Nat} {os : List VOper} {e : Env} {s s2 : Store}
theorem see_swap {a b : Store} (h : seeX a some = some b) : seeS a some = some b := by rw [seeX_eq] at h; rw [seeS_eq]; exact h
theorem oRx {Q : Env → Store → Prop} {f : Nat} {args : List Opd} {as as' : List V} {fz ids : List Nat} {r0 v : V} {bs bs0 : Store} (hc : convArgs s (flagsOf p f) (args.map (ev e)) = some (as, fz)) (hi : reach s (budget s) (refsL as) [] = ids) (hd : (ids.all fun i => !fz.contains i) = true)
    (has : seeVs (renL (pos ids) as) some = some as') (hbs : seeS (pack s ids (pos ids)) some = some bs0) (hret : Ret p (.fn f) as' bs0 r0 bs) (hl : (decide (ids.length ≤ bs.length) && allS (bs.take ids.length)) = true) (hv : seeV (ren (backOf ids bs s.length) r0) some = some v)
    (hs : seeX (storeBack ids bs (if lends ids bs r0 then s else closeB s fz) (backOf ids bs s.length)) some = some s2) (h : Ops p b0 os (put e d v) s2 Q) : Ops p b0 (⟨d, .call f args, none⟩ :: os) e s Q := oR hc hi hd has hbs hret hl hv (see_swap hs) h
theorem oVx {Q : Env → Store → Prop} {fv : Opd} {t t' : Tgt} {xa xb : List V} {args : List Opd} {as as' : List V} {fz ids : List Nat} {r0 v : V} {bs bs0 : Store} (ht0 : target (ev e fv) = some (t, xa, xb)) (hc : convArgs s (match t with | .fn f => flagsOf p f | .round _ => []) (xa ++ args.map (ev e) ++ xb) = some (as, fz)) (hi : reach s (budget s) (rootsT t ++ refsL as) [] = ids) (hd : (ids.all fun i => !fz.contains i) = true) (ht : tgtAt (pos ids) t = some t')
    (has : seeVs (renL (pos ids) as) some = some as') (hbs : seeS (pack s ids (pos ids)) some = some bs0) (hret : Ret p t' as' bs0 r0 bs) (hl : (decide (ids.length ≤ bs.length) && allS (bs.take ids.length)) = true) (hv : seeV (ren (backOf ids bs s.length) r0) some = some v)
    (hs : seeX (storeBack ids bs (if lends ids bs r0 then s else closeB s fz) (backOf ids bs s.length)) some = some s2) (h : Ops p b0 os (put e d v) s2 Q) : Ops p b0 (⟨d, .callv fv args, none⟩ :: os) e s Q := oV ht0 hc hi hd ht has hbs hret hl hv (see_swap hs) h
theorem oNx {Q : Env → Store → Prop} {f : Nat} {args : List Opd} {as : List V} {fz : List Nat} {r0 v : V} {bs s2 : Store} (hc : convArgs s (flagsOf p f) (args.map (ev e)) = some (as, fz)) (hr : refsL as = []) (hret : Ret p (.fn f) as [] r0 bs) (hv : seeV (ren (backOf [] bs s.length) r0) some = some v)
    (hs : seeX (storeBack [] bs (if lends [] bs r0 then s else closeB s fz) (backOf [] bs s.length)) some = some s2) (h : Ops p b0 os (put e d v) s2 Q) : Ops p b0 (⟨d, .call f args, none⟩ :: os) e s Q := oN hc hr hret hv (see_swap hs) h
theorem oCx {Q : Env → Store → Prop} {f : Nat} {args : List Opd} {as : List V} {fz : List Nat} {r : D} (hc : convArgs s (flagsOf p f) (args.map (ev e)) = some (as, fz)) (hr : refsL as = []) (hret : Ret p (.fn f) as [] (.d r) []) (hs : seeX (if flatD r then s else closeB s fz) some = some s2) (h : Ops p b0 os (put e d (.d r)) s2 Q) : Ops p b0 (⟨d, .call f args, none⟩ :: os) e s Q := oC hc hr hret (see_swap hs) h
/-! The contract first: what does not fit fails soon. -/
theorem oC1 {Q : Env → Store → Prop} {f : Nat} {args : List Opd} {as : List V} {fz : List Nat} {r : D} (hret : Ret p (.fn f) as [] (.d r) []) (hc : convArgs s (flagsOf p f) (args.map (ev e)) = some (as, fz)) (hr : refsL as = []) (hs : seeX (if flatD r then s else closeB s fz) some = some s2) (h : Ops p b0 os (put e d (.d r)) s2 Q) : Ops p b0 (⟨d, .call f args, none⟩ :: os) e s Q := oCx hc hr hret hs h
theorem oN1 {Q : Env → Store → Prop} {f : Nat} {args : List Opd} {as : List V} {fz : List Nat} {r0 v : V} {bs : Store} (hret : Ret p (.fn f) as [] r0 bs) (hc : convArgs s (flagsOf p f) (args.map (ev e)) = some (as, fz)) (hr : refsL as = []) (hv : seeV (ren (backOf [] bs s.length) r0) some = some v)
    (hs : seeX (storeBack [] bs (if lends [] bs r0 then s else closeB s fz) (backOf [] bs s.length)) some = some s2) (h : Ops p b0 os (put e d v) s2 Q) : Ops p b0 (⟨d, .call f args, none⟩ :: os) e s Q := oNx hc hr hret hv hs h
theorem oR1 {Q : Env → Store → Prop} {f : Nat} {args : List Opd} {as as' : List V} {fz ids : List Nat} {r0 v : V} {bs bs0 : Store} (hret : Ret p (.fn f) as' bs0 r0 bs) (hc : convArgs s (flagsOf p f) (args.map (ev e)) = some (as, fz)) (hi : reach s (budget s) (refsL as) [] = ids) (hd : (ids.all fun i => !fz.contains i) = true)
    (has : seeVs (renL (pos ids) as) some = some as') (hbs : seeS (pack s ids (pos ids)) some = some bs0) (hl : (decide (ids.length ≤ bs.length) && allS (bs.take ids.length)) = true) (hv : seeV (ren (backOf ids bs s.length) r0) some = some v)
    (hs : seeX (storeBack ids bs (if lends ids bs r0 then s else closeB s fz) (backOf ids bs s.length)) some = some s2) (h : Ops p b0 os (put e d v) s2 Q) : Ops p b0 (⟨d, .call f args, none⟩ :: os) e s Q := oR hc hi hd has hbs hret hl hv (see_swap hs) h
theorem oV1 {Q : Env → Store → Prop} {fv : Opd} {f : Nat} {xa xb : List V} {args : List Opd} {as as' : List V} {fz ids : List Nat} {r0 v : V} {bs bs0 : Store} (ht0 : target (ev e fv) = some (.fn f, xa, xb)) (hret : Ret p (.fn f) as' bs0 r0 bs) (hc : convArgs s (flagsOf p f) (xa ++ args.map (ev e) ++ xb) = some (as, fz)) (hi : reach s (budget s) (rootsT (.fn f) ++ refsL as) [] = ids) (hd : (ids.all fun i => !fz.contains i) = true)
    (has : seeVs (renL (pos ids) as) some = some as') (hbs : seeS (pack s ids (pos ids)) some = some bs0) (hl : (decide (ids.length ≤ bs.length) && allS (bs.take ids.length)) = true) (hv : seeV (ren (backOf ids bs s.length) r0) some = some v)
    (hs : seeX (storeBack ids bs (if lends ids bs r0 then s else closeB s fz) (backOf ids bs s.length)) some = some s2) (h : Ops p b0 os (put e d v) s2 Q) : Ops p b0 (⟨d, .callv fv args, none⟩ :: os) e s Q := oV ht0 hc hi hd rfl has hbs hret hl hv (see_swap hs) h
end
/-! ### Values seen deeper: the numbers of blocks are numerals -/
def seeN {α : Sort _} (n : Nat) (K : Nat → α) : α :=
  match n with
  | 0 => K 0
  | 1 => K 1
  | 2 => K 2
  | 3 => K 3
  | 4 => K 4
  | 5 => K 5
  | 6 => K 6
  | 7 => K 7
  | 8 => K 8
  | 9 => K 9
  | 10 => K 10
  | 11 => K 11
  | 12 => K 12
  | 13 => K 13
  | 14 => K 14
  | 15 => K 15
  | 16 => K 16
  | 17 => K 17
  | 18 => K 18
  | 19 => K 19
  | 20 => K 20
  | 21 => K 21
  | 22 => K 22
  | 23 => K 23
  | 24 => K 24
  | 25 => K 25
  | 26 => K 26
  | 27 => K 27
  | 28 => K 28
  | 29 => K 29
  | 30 => K 30
  | 31 => K 31
  | 32 => K 32
  | 33 => K 33
  | 34 => K 34
  | 35 => K 35
  | 36 => K 36
  | 37 => K 37
  | 38 => K 38
  | 39 => K 39
  | n => K n
theorem seeN_eq {α : Sort _} (n : Nat) (K : Nat → α) : seeN n K = K n := by
  unfold seeN
  split <;> rfl
def seeNs {α : Sort _} : List Nat → (List Nat → α) → α
  | [], K => K []
  | x :: xs, K => seeN x fun x => seeNs xs fun xs => K (x :: xs)
theorem seeNs_eq {α : Sort _} : ∀ (xs : List Nat) (K : List Nat → α), seeNs xs K = K xs
  | [], K => rfl
  | x :: xs, K => by simp only [seeNs, seeN_eq, seeNs_eq xs]
def see0 {α : Sort _} (x : V) (K : V → α) : α :=
  match x with
  | .d (.int k n) => K (.d (.int k n))
  | .d (.bool b) => K (.d (.bool b))
  | .d (.slice es) => K (.d (.slice es))
  | .d (.agg cs) => K (.d (.agg cs))
  | .d (.iptr cs o) => K (.d (.iptr cs o))
  | .d (.tuple vs) => K (.d (.tuple vs))
  | .d (.func f a b) => K (.d (.func f a b))
  | .d (.str b) => K (.d (.str b))
  | .ptr a b c d => seeN a fun a => K (.ptr a b c d)
  | .ms a b c d => seeN a fun a => K (.ms a b c d)
  | .asl a b c d e => seeN a fun a => K (.asl a b c d e)
  | .lit es => K (.lit es)
  | .agg cs => K (.agg cs)
  | .tuple cs => K (.tuple cs)
  | .func f a b => K (.func f a b)
  | .map i => seeN i fun i => K (.map i)
  | .yield i => seeN i fun i => K (.yield i)
  | .nils => K .nils
  | .emp => K .emp
  | x => K x
theorem see0_eq {α : Sort _} (x : V) (K : V → α) : see0 x K = K x := by
  unfold see0
  split <;> first | rfl | simp only [seeN_eq]
def see0s {α : Sort _} : List V → (List V → α) → α
  | [], K => K []
  | x :: xs, K => see0 x fun x => see0s xs fun xs => K (x :: xs)
theorem see0s_eq {α : Sort _} : ∀ (xs : List V) (K : List V → α), see0s xs K = K xs
  | [], K => rfl
  | x :: xs, K => by simp only [see0s, see0_eq, see0s_eq xs]
/-- A value, and what it holds. -/
def see1 {α : Sort _} (x : V) (K : V → α) : α :=
  see0 x fun x => match x with
  | .agg cs => see0s cs fun cs => K (.agg cs)
  | .tuple cs => see0s cs fun cs => K (.tuple cs)
  | .func f a b => see0s a fun a => see0s b fun b => K (.func f a b)
  | x => K x
theorem see1_eq {α : Sort _} (x : V) (K : V → α) : see1 x K = K x := by
  unfold see1
  rw [see0_eq]
  split <;> first | rfl | simp only [see0s_eq]
def see1s {α : Sort _} : List V → (List V → α) → α
  | [], K => K []
  | x :: xs, K => see1 x fun x => see1s xs fun xs => K (x :: xs)
theorem see1s_eq {α : Sort _} : ∀ (xs : List V) (K : List V → α), see1s xs K = K xs
  | [], K => rfl
  | x :: xs, K => by simp only [see1s, see1_eq, see1s_eq xs]
def see1r {α : Sort _} : List (List V) → (List (List V) → α) → α
  | [], K => K []
  | r :: rs, K => see1s r fun r => see1r rs fun rs => K (r :: rs)
theorem see1r_eq {α : Sort _} : ∀ (rs : List (List V)) (K : List (List V) → α), see1r rs K = K rs
  | [], K => rfl
  | r :: rs, K => by simp only [see1r, see1s_eq, see1r_eq rs]
def see1m {α : Sort _} : List (D × V) → (List (D × V) → α) → α
  | [], K => K []
  | (a, x) :: xs, K => seeY a fun a => see1 x fun x => see1m xs fun xs => K ((a, x) :: xs)
theorem see1m_eq {α : Sort _} : ∀ (xs : List (D × V)) (K : List (D × V) → α), see1m xs K = K xs
  | [], K => rfl
  | (a, x) :: xs, K => by simp only [see1m, see1_eq, seeY_eq, see1m_eq xs]
def see1e {α : Sort _} : List (Nat × V) → (List (Nat × V) → α) → α
  | [], K => K []
  | (a, x) :: xs, K => see1 x fun x => see1e xs fun xs => K ((a, x) :: xs)
theorem see1e_eq {α : Sort _} : ∀ (xs : List (Nat × V)) (K : List (Nat × V) → α), see1e xs K = K xs
  | [], K => rfl
  | (a, x) :: xs, K => by simp only [see1e, see1_eq, see1e_eq xs]
/-- A store, but not its rows. -/
def seeT {α : Sort _} : Store → (Store → α) → α
  | [], K => K []
  | none :: s, K => seeT s fun s => K (none :: s)
  | some (.rows v ro e els) :: s, K => seeT s fun s => K (some (.rows v ro e els) :: s)
  | some (.map es) :: s, K => see1m es fun es => seeT s fun s => K (some (.map es) :: s)
  | some (.loop st j env ps a b) :: s, K => see1e env fun env => seeT s fun s => K (some (.loop st j env ps a b) :: s)
theorem seeT_eq {α : Sort _} : ∀ (s : Store) (K : Store → α), seeT s K = K s
  | [], K => rfl
  | none :: s, K => by simp only [seeT, seeT_eq s]
  | some (.rows v ro e els) :: s, K => by simp only [seeT, seeT_eq s]
  | some (.map es) :: s, K => by simp only [seeT, see1m_eq, seeT_eq s]
  | some (.loop st j env ps a b) :: s, K => by simp only [seeT, see1e_eq, seeT_eq s]
/-- A store, rows and all. -/
def seeW {α : Sort _} : Store → (Store → α) → α
  | [], K => K []
  | none :: s, K => seeW s fun s => K (none :: s)
  | some (.rows v ro e els) :: s, K => see1r els fun els => seeW s fun s => K (some (.rows v ro e els) :: s)
  | some (.map es) :: s, K => see1m es fun es => seeW s fun s => K (some (.map es) :: s)
  | some (.loop st j env ps a b) :: s, K => see1e env fun env => seeW s fun s => K (some (.loop st j env ps a b) :: s)
theorem seeW_eq {α : Sort _} : ∀ (s : Store) (K : Store → α), seeW s K = K s
  | [], K => rfl
  | none :: s, K => by simp only [seeW, seeW_eq s]
  | some (.rows v ro e els) :: s, K => by simp only [seeW, see1r_eq, seeW_eq s]
  | some (.map es) :: s, K => by simp only [seeW, see1m_eq, seeW_eq s]
  | some (.loop st j env ps a b) :: s, K => by simp only [seeW, see1e_eq, seeW_eq s]
theorem refsE_lives {e : Env} : ∀ live : List Nat, refsE (lives e live) = refsL (live.map e)
  | [] => rfl
  | t :: live => by
    have := refsE_lives (e := e) live
    simp only [lives, List.map_cons, refsE, refsL] at this ⊢
    rw [this]
theorem renL_map {m : Nat → Option Nat} : ∀ xs : List V, renL m xs = xs.map (ren m)
  | [] => rfl
  | x :: xs => by simp only [renL, List.map_cons, renL_map xs]
/-- The head of a loop, step by step. -/
theorem lh1 {live : List Nat} {body : VCode} {e : Env} {s s1 : Store} {ids : List Nat} {vs0 vs : List V} {K : List Fr} {Q : Out → Env → Store → Prop} (hv : see1s (live.map e) some = some vs0) (hi : seeNs (gcIds s k (refsL vs0)) some = some ids) (hw : see1s (renL (pos ids) vs0) some = some vs) (hs : seeW (pack s ids (pos ids)) some = some s1)
    (hb : Run p k body (envOf (live.zip vs)) s1 (cont p k (.loop live body :: K) Q)) : Loop p k live body e s (cont p k K Q) := by
  rw [see1s_eq] at hv; injection hv with hv
  rw [seeNs_eq] at hi; injection hi with hi
  rw [see1s_eq] at hw; injection hw with hw
  rw [seeW_eq] at hs; injection hs with hs
  refine loop_head (vs := vs) (s1 := s1) ?_ (by unfold Head; exact hb)
  unfold sweepTo
  rw [seeVs_eq, seeS_eq, refsE_lives, hv, hi, hs]
  rw [renL_map, ← hv, List.map_map] at hw
  rw [← hw]; rfl
theorem hd1 {live : List Nat} {body : VCode} {e : Env} {s s1 : Store} {ids : List Nat} {vs0 vs : List V} {K : List Fr} {Q : Out → Env → Store → Prop} (hv : see1s (live.map e) some = some vs0) (hi : seeNs (gcIds s k (refsL vs0)) some = some ids) (hw : see1s (renL (pos ids) vs0) some = some vs) (hs : seeW (pack s ids (pos ids)) some = some s1)
    (hb : Head p k live body vs s1 K Q) : Loop p k live body e s (cont p k K Q) := lh1 hv hi hw hs (by unfold Head at hb; exact hb)
section
variable {b0 : Nat} {d : Option Nat} {os : List VOper} {e : Env} {s s1 s2 : Store}
def seeR1 (r : Option (Res × Store)) : Option (V × Store) :=
  match r with
  | some (.val x, s) => see1 x fun x => seeT s fun s => some (x, s)
  | some (.none, s) => seeT s fun s => some (skipV, s)
  | none => none
theorem seeR1_eq (r : Option (Res × Store)) : seeR1 r = seeR r := by
  unfold seeR1 seeR
  split <;> simp only [see1_eq, seeV_eq, seeT_eq, seeS_eq]
theorem ov1 {op : VOp} {x : V} {Q : Env → Store → Prop} (h1 : seeR1 (runOp (fun _ _ _ => none) (fun _ => []) b0 op e s) = some (x, s1)) (h : Ops p b0 os (put e d x) s1 Q) : Ops p b0 (⟨d, op, none⟩ :: os) e s Q := ops_val (by rw [← seeR1_eq]; exact h1) h
theorem swapW {a b : Store} (h : seeW a some = some b) : seeX a some = some b := by rw [seeW_eq] at h; rw [seeX_eq]; exact h
theorem swap1 {x y : V} (h : see1 x some = some y) : seeV x some = some y := by rw [see1_eq] at h; rw [seeV_eq]; exact h
theorem swap1s {x y : List V} (h : see1s x some = some y) : seeVs x some = some y := by rw [see1s_eq] at h; rw [seeVs_eq]; exact h
theorem swapNs {x y : List Nat} (h : seeNs x some = some y) : x = y := by rw [seeNs_eq] at h; injection h
theorem oN2 {Q : Env → Store → Prop} {f : Nat} {args : List Opd} {as : List V} {fz : List Nat} {r0 v : V} {bs : Store} (hret : Ret p (.fn f) as [] r0 bs) (hc : convArgs s (flagsOf p f) (args.map (ev e)) = some (as, fz)) (hr : refsL as = []) (hv : see1 (ren (backOf [] bs s.length) r0) some = some v)
    (hs : seeW (storeBack [] bs (if lends [] bs r0 then s else closeB s fz) (backOf [] bs s.length)) some = some s2) (h : Ops p b0 os (put e d v) s2 Q) : Ops p b0 (⟨d, .call f args, none⟩ :: os) e s Q := oN1 hret hc hr (swap1 hv) (swapW hs) h
theorem oR2 {Q : Env → Store → Prop} {f : Nat} {args : List Opd} {as as' : List V} {fz ids : List Nat} {r0 v : V} {bs bs0 : Store} (hret : Ret p (.fn f) as' bs0 r0 bs) (hc : convArgs s (flagsOf p f) (args.map (ev e)) = some (as, fz)) (hi : seeNs (reach s (budget s) (refsL as) []) some = some ids) (hd : (ids.all fun i => !fz.contains i) = true)
    (has : see1s (renL (pos ids) as) some = some as') (hbs : seeS (pack s ids (pos ids)) some = some bs0) (hl : (decide (ids.length ≤ bs.length) && allS (bs.take ids.length)) = true) (hv : see1 (ren (backOf ids bs s.length) r0) some = some v)
    (hs : seeW (storeBack ids bs (if lends ids bs r0 then s else closeB s fz) (backOf ids bs s.length)) some = some s2) (h : Ops p b0 os (put e d v) s2 Q) : Ops p b0 (⟨d, .call f args, none⟩ :: os) e s Q := oR1 hret hc (swapNs hi) hd (swap1s has) hbs hl (swap1 hv) (swapW hs) h
theorem oV2 {Q : Env → Store → Prop} {fv : Opd} {f : Nat} {xa xb : List V} {args : List Opd} {as as' : List V} {fz ids : List Nat} {r0 v : V} {bs bs0 : Store} (ht0 : target (ev e fv) = some (.fn f, xa, xb)) (hret : Ret p (.fn f) as' bs0 r0 bs) (hc : convArgs s (flagsOf p f) (xa ++ args.map (ev e) ++ xb) = some (as, fz)) (hi : seeNs (reach s (budget s) (rootsT (.fn f) ++ refsL as) []) some = some ids) (hd : (ids.all fun i => !fz.contains i) = true)
    (has : see1s (renL (pos ids) as) some = some as') (hbs : seeS (pack s ids (pos ids)) some = some bs0) (hl : (decide (ids.length ≤ bs.length) && allS (bs.take ids.length)) = true) (hv : see1 (ren (backOf ids bs s.length) r0) some = some v)
    (hs : seeW (storeBack ids bs (if lends ids bs r0 then s else closeB s fz) (backOf ids bs s.length)) some = some s2) (h : Ops p b0 os (put e d v) s2 Q) : Ops p b0 (⟨d, .callv fv args, none⟩ :: os) e s Q := oV1 ht0 hret hc (swapNs hi) hd (swap1s has) hbs hl (swap1 hv) (swapW hs) h
end
/-! Gates: of what kind the goal is. -/
section
variable {b0 : Nat} {d : Option Nat} {op : VOp} {os : List VOper} {e : Env} {s : Store} {Q : Env → Store → Prop} {QF : Env → Store → List Foot → Prop} {K : List Fr} {QO : Out → Env → Store → Prop} {o : Out} {c : VCode} {live : List Nat} {f : Nat} {args : List Opd} {fv x y z : Opd} {g : Nat × Bool}
theorem gO (h : Ops p b0 os e s Q) : Ops p b0 os e s Q := h
theorem gF (h : OpsF p b0 os e s QF) : OpsF p b0 os e s QF := h
theorem gR (h : Run p k c e s QO) : Run p k c e s QO := h
theorem gL (h : Loop p k live c e s QO) : Loop p k live c e s QO := h
theorem gK (h : cont p k K QO o e s) : cont p k K QO o e s := h
theorem gOc (h : Ops p b0 (⟨d, .call f args, none⟩ :: os) e s Q) : Ops p b0 (⟨d, .call f args, none⟩ :: os) e s Q := h
theorem gOv (h : Ops p b0 (⟨d, .callv fv args, none⟩ :: os) e s Q) : Ops p b0 (⟨d, .callv fv args, none⟩ :: os) e s Q := h
theorem gOg (h : Ops p b0 (⟨d, op, some g⟩ :: os) e s Q) : Ops p b0 (⟨d, op, some g⟩ :: os) e s Q := h
theorem gOp (h : Ops p b0 (⟨d, .pick x y z, none⟩ :: os) e s Q) : Ops p b0 (⟨d, .pick x y z, none⟩ :: os) e s Q := h
theorem gFc (h : OpsF p b0 (⟨d, .call f args, none⟩ :: os) e s QF) : OpsF p b0 (⟨d, .call f args, none⟩ :: os) e s QF := h
theorem gFv (h : OpsF p b0 (⟨d, .callv fv args, none⟩ :: os) e s QF) : OpsF p b0 (⟨d, .callv fv args, none⟩ :: os) e s QF := h
theorem gFg (h : OpsF p b0 (⟨d, op, some g⟩ :: os) e s QF) : OpsF p b0 (⟨d, op, some g⟩ :: os) e s QF := h
theorem gFp (h : OpsF p b0 (⟨d, .pick x y z, none⟩ :: os) e s QF) : OpsF p b0 (⟨d, .pick x y z, none⟩ :: os) e s QF := h
end
end Go.Proofs.YtboekhenldifhaaGreat
/- Rules for ranges over functions. -/
set_option linter.unusedSimpArgs false
set_option linter.unusedVariables false
namespace Go.Proofs.YtboekhenldifhaaGreat
variable {p : VProg} {k : Nat}
attribute [local semireducible] Run Ops Ret
def endRound (k id : Nat) (out : Out) (s2 : Store) : Option (V × Store) :=
  match getB s2 id with
  | some (.loop _ _ env' ps' a' b') =>
    let (st, j, r) := match out with | .normal => (0, Jump.none, true) | .exit i => (2, Jump.exit i, false) | .ret => (2, Jump.ret, false)
    leave true k (.d (.bool r)) (setB s2 id (.loop st j env' ps' a' b'))
  | _ => none
/-- A round. -/
theorem ret_round {id : Nat} {args : List V} {bs bs' : Store} {r : V} {j : Jump} {env : List (Nat × V)} {params : List Nat} {assign body : VCode} (hb : getB bs id = some (.loop 0 j env params assign body)) (hl : args.length = params.length)
    (h : Run p bs.length assign ((params.zip args).foldl (fun e (t, a) => upd e t a) (envOf env)) bs fun o e1 s1 => o = .normal ∧ ∃ j' env' ps' a' b', getB s1 id = some (.loop 0 j' env' ps' a' b') ∧ Run p bs.length body e1 (setB s1 id (.loop 1 j' env' ps' a' b')) fun out _ s2 => endRound bs.length id out s2 = some (r, bs')) : Ret p (.round id) args bs r bs' := by
  obtain ⟨o, e1, s1, ⟨rfl, j', env', ps', a', b', hb1, o2, e2, s2, hq, n1, hr1⟩, n0, hr0⟩ := h
  refine ⟨max n0 n1 + 1, fun n hn => ?_⟩
  obtain ⟨n, rfl⟩ : ∃ i, n = i + 1 := ⟨n - 1, by omega⟩
  have h0 := hr0 n (by omega)
  have h1 := hr1 n (by omega)
  simp only [callN, runRound, hb, hl, if_true, h0, hb1, h1]
  unfold endRound at hq
  split at hq
  · rename_i e' ps'' a'' b'' hg
    rw [hg]
    exact hq
  · cases hq
def outOf : Jump → Out
  | .none => .normal
  | .exit x => .exit x
  | .ret => .ret
/-- A range over a function. -/
theorem rg {f : Opd} {live params : List Nat} {assign body : VCode} {e : Env} {s s1 s2 s3 : Store} {K : List Fr} {Q : Out → Env → Store → Prop} {g : Nat} {xa xb as as' : List V} {fz ids : List Nat} {r0 : V} {bs bs0 : Store} {st : Nat} {j : Jump} {env' : List (Nat × V)} {ps' : List Nat} {a' b' : VCode}
    (ht : target (ev e f) = some (.fn g, xa, xb)) (hret : Ret p (.fn g) as' bs0 r0 bs) (hs1 : seeW (s ++ [some (.loop 0 .none (lives e live) params assign body)]) some = some s1) (hc : convArgs s1 (flagsOf p g) (xa ++ [.yield s.length] ++ xb) = some (as, fz)) (hi : seeNs (reach s1 (budget s1) (rootsT (.fn g) ++ refsL as) []) some = some ids) (hd : (ids.all fun i => !fz.contains i) = true)
    (has : see1s (renL (pos ids) as) some = some as') (hbs : seeS (pack s1 ids (pos ids)) some = some bs0) (hl : (decide (ids.length ≤ bs.length) && allS (bs.take ids.length)) = true)
    (hs : seeW (storeBack ids bs (if lends ids bs r0 then s1 else closeB s1 fz) (backOf ids bs s1.length)) some = some s2) (hg : getB s2 s.length = some (.loop st j env' ps' a' b')) (hst : (st == 1) = false) (h3 : seeW (setB s2 s.length (.loop 3 j env' ps' a' b')) some = some s3)
    (h : cont p k K Q (outOf j) e s3) : Run p k (.rangeFunc f live params assign body) e s (cont p k K Q) := by
  rw [seeW_eq] at hs1 h3; injection hs1 with hs1; injection h3 with h3
  have hcall := callOut_ref (p := p) (t := .fn g) hc (swapNs hi) hd rfl (swap1s has) hbs hret hl (v := ren (backOf ids bs s1.length) r0) (by rw [seeV_eq]) (see_swap (swapW hs))
  obtain ⟨n0, hcall⟩ := hcall
  refine ⟨outOf j, e, s3, h, n0, fun n hn => ?_⟩
  have hcn := hcall n hn
  have hst' : st ≠ 1 := by simpa using hst
  simp only [runCode, runRange, ht, hs1, hcn, hg, if_neg hst', h3]
  cases j <;> rfl
section
variable {b0 : Nat} {d : Option Nat} {os : List VOper} {e : Env} {s s2 : Store}
/-- A call of 'yield'. -/
theorem oVr {Q : Env → Store → Prop} {fv : Opd} {id id' : Nat} {args : List Opd} {as as' : List V} {fz ids : List Nat} {r0 v : V} {bs bs0 : Store} (ht0 : ev e fv = .yield id) (hret : Ret p (.round id') as' bs0 r0 bs) (hc : convArgs s [] (args.map (ev e)) = some (as, fz)) (hi : seeNs (reach s (budget s) (rootsT (.round id) ++ refsL as) []) some = some ids) (hd : (ids.all fun i => !fz.contains i) = true) (ht : pos ids id = some id')
    (has : see1s (renL (pos ids) as) some = some as') (hbs : seeS (pack s ids (pos ids)) some = some bs0) (hl : (decide (ids.length ≤ bs.length) && allS (bs.take ids.length)) = true) (hv : see1 (ren (backOf ids bs s.length) r0) some = some v)
    (hs : seeW (storeBack ids bs (if lends ids bs r0 then s else closeB s fz) (backOf ids bs s.length)) some = some s2) (h : Ops p b0 os (put e d v) s2 Q) : Ops p b0 (⟨d, .callv fv args, none⟩ :: os) e s Q := by
  refine oV (t := .round id) (xa := []) (xb := []) (t' := .round id') (by rw [ht0]; rfl) (by simpa using hc) (swapNs hi) hd (by simp [tgtAt, ht]) (swap1s has) hbs hret hl (swap1 hv) (see_swap (swapW hs)) h
end
end Go.Proofs.YtboekhenldifhaaGreat
/- The rules once more, for stores whose rows are not seen (lists of unknown length). -/
set_option linter.unusedSimpArgs false
set_option linter.unusedVariables false
namespace Go.Proofs.YtboekhenldifhaaGreat
variable {p : VProg} {k : Nat}
attribute [local semireducible] Run Ops Ret
theorem swapT {a b : Store} (h : seeT a some = some b) : seeW a some = some b := by rw [seeT_eq] at h; rw [seeW_eq]; exact h
section
variable {b0 : Nat} {d : Option Nat} {os : List VOper} {e : Env} {s s1 s2 : Store}
theorem oC1t {Q : Env → Store → Prop} {f : Nat} {args : List Opd} {as : List V} {fz : List Nat} {r : D} (hret : Ret p (.fn f) as [] (.d r) []) (hc : convArgs s (flagsOf p f) (args.map (ev e)) = some (as, fz)) (hr : refsL as = []) (hs : seeT (if flatD r then s else closeB s fz) some = some s2) (h : Ops p b0 os (put e d (.d r)) s2 Q) : Ops p b0 (⟨d, .call f args, none⟩ :: os) e s Q := oCx hc hr hret (swapW (swapT hs)) h
theorem oN2t {Q : Env → Store → Prop} {f : Nat} {args : List Opd} {as : List V} {fz : List Nat} {r0 v : V} {bs : Store} (hret : Ret p (.fn f) as [] r0 bs) (hc : convArgs s (flagsOf p f) (args.map (ev e)) = some (as, fz)) (hr : refsL as = []) (hv : see1 (ren (backOf [] bs s.length) r0) some = some v)
    (hs : seeT (storeBack [] bs (if lends [] bs r0 then s else closeB s fz) (backOf [] bs s.length)) some = some s2) (h : Ops p b0 os (put e d v) s2 Q) : Ops p b0 (⟨d, .call f args, none⟩ :: os) e s Q := oN1 hret hc hr (swap1 hv) (swapW (swapT hs)) h
theorem oR2t {Q : Env → Store → Prop} {f : Nat} {args : List Opd} {as as' : List V} {fz ids : List Nat} {r0 v : V} {bs bs0 : Store} (hret : Ret p (.fn f) as' bs0 r0 bs) (hc : convArgs s (flagsOf p f) (args.map (ev e)) = some (as, fz)) (hi : seeNs (reach s (budget s) (refsL as) []) some = some ids) (hd : (ids.all fun i => !fz.contains i) = true)
    (has : see1s (renL (pos ids) as) some = some as') (hbs : seeS (pack s ids (pos ids)) some = some bs0) (hl : (decide (ids.length ≤ bs.length) && allS (bs.take ids.length)) = true) (hv : see1 (ren (backOf ids bs s.length) r0) some = some v)
    (hs : seeT (storeBack ids bs (if lends ids bs r0 then s else closeB s fz) (backOf ids bs s.length)) some = some s2) (h : Ops p b0 os (put e d v) s2 Q) : Ops p b0 (⟨d, .call f args, none⟩ :: os) e s Q := oR1 hret hc (swapNs hi) hd (swap1s has) hbs hl (swap1 hv) (swapW (swapT hs)) h
theorem oV2t {Q : Env → Store → Prop} {fv : Opd} {f : Nat} {xa xb : List V} {args : List Opd} {as as' : List V} {fz ids : List Nat} {r0 v : V} {bs bs0 : Store} (ht0 : target (ev e fv) = some (.fn f, xa, xb)) (hret : Ret p (.fn f) as' bs0 r0 bs) (hc : convArgs s (flagsOf p f) (xa ++ args.map (ev e) ++ xb) = some (as, fz)) (hi : seeNs (reach s (budget s) (rootsT (.fn f) ++ refsL as) []) some = some ids) (hd : (ids.all fun i => !fz.contains i) = true)
    (has : see1s (renL (pos ids) as) some = some as') (hbs : seeS (pack s ids (pos ids)) some = some bs0) (hl : (decide (ids.length ≤ bs.length) && allS (bs.take ids.length)) = true) (hv : see1 (ren (backOf ids bs s.length) r0) some = some v)
    (hs : seeT (storeBack ids bs (if lends ids bs r0 then s else closeB s fz) (backOf ids bs s.length)) some = some s2) (h : Ops p b0 os (put e d v) s2 Q) : Ops p b0 (⟨d, .callv fv args, none⟩ :: os) e s Q := oV1 ht0 hret hc (swapNs hi) hd (swap1s has) hbs hl (swap1 hv) (swapW (swapT hs)) h
theorem oVrt {Q : Env → Store → Prop} {fv : Opd} {id id' : Nat} {args : List Opd} {as as' : List V} {fz ids : List Nat} {r0 v : V} {bs bs0 : Store} (ht0 : ev e fv = .yield id) (hret : Ret p (.round id') as' bs0 r0 bs) (hc : convArgs s [] (args.map (ev e)) = some (as, fz)) (hi : seeNs (reach s (budget s) (rootsT (.round id) ++ refsL as) []) some = some ids) (hd : (ids.all fun i => !fz.contains i) = true) (ht : pos ids id = some id')
    (has : see1s (renL (pos ids) as) some = some as') (hbs : seeS (pack s ids (pos ids)) some = some bs0) (hl : (decide (ids.length ≤ bs.length) && allS (bs.take ids.length)) = true) (hv : see1 (ren (backOf ids bs s.length) r0) some = some v)
    (hs : seeT (storeBack ids bs (if lends ids bs r0 then s else closeB s fz) (backOf ids bs s.length)) some = some s2) (h : Ops p b0 os (put e d v) s2 Q) : Ops p b0 (⟨d, .callv fv args, none⟩ :: os) e s Q := by
  refine oV (t := .round id) (xa := []) (xb := []) (t' := .round id') (by rw [ht0]; rfl) (by simpa using hc) (swapNs hi) hd (by simp [tgtAt, ht]) (swap1s has) hbs hret hl (swap1 hv) (see_swap (swapW (swapT hs))) h
theorem lh1t {live : List Nat} {body : VCode} {e : Env} {s s1 : Store} {ids : List Nat} {vs0 vs : List V} {K : List Fr} {Q : Out → Env → Store → Prop} (hv : see1s (live.map e) some = some vs0) (hi : seeNs (gcIds s k (refsL vs0)) some = some ids) (hw : see1s (renL (pos ids) vs0) some = some vs) (hs : seeT (pack s ids (pos ids)) some = some s1)
    (hb : Run p k body (envOf (live.zip vs)) s1 (cont p k (.loop live body :: K) Q)) : Loop p k live body e s (cont p k K Q) := lh1 hv hi hw (swapT hs) hb
theorem hd1t {live : List Nat} {body : VCode} {e : Env} {s s1 : Store} {ids : List Nat} {vs0 vs : List V} {K : List Fr} {Q : Out → Env → Store → Prop} (hv : see1s (live.map e) some = some vs0) (hi : seeNs (gcIds s k (refsL vs0)) some = some ids) (hw : see1s (renL (pos ids) vs0) some = some vs) (hs : seeT (pack s ids (pos ids)) some = some s1)
    (hb : Head p k live body vs s1 K Q) : Loop p k live body e s (cont p k K Q) := hd1 hv hi hw (swapT hs) hb
theorem rgt {f : Opd} {live params : List Nat} {assign body : VCode} {e : Env} {s s1 s2 s3 : Store} {K : List Fr} {Q : Out → Env → Store → Prop} {g : Nat} {xa xb as as' : List V} {fz ids : List Nat} {r0 : V} {bs bs0 : Store} {st : Nat} {j : Jump} {env' : List (Nat × V)} {ps' : List Nat} {a' b' : VCode}
    (ht : target (ev e f) = some (.fn g, xa, xb)) (hret : Ret p (.fn g) as' bs0 r0 bs) (hs1 : seeT (s ++ [some (.loop 0 .none (lives e live) params assign body)]) some = some s1) (hc : convArgs s1 (flagsOf p g) (xa ++ [.yield s.length] ++ xb) = some (as, fz)) (hi : seeNs (reach s1 (budget s1) (rootsT (.fn g) ++ refsL as) []) some = some ids) (hd : (ids.all fun i => !fz.contains i) = true)
    (has : see1s (renL (pos ids) as) some = some as') (hbs : seeS (pack s1 ids (pos ids)) some = some bs0) (hl : (decide (ids.length ≤ bs.length) && allS (bs.take ids.length)) = true)
    (hs : seeT (storeBack ids bs (if lends ids bs r0 then s1 else closeB s1 fz) (backOf ids bs s1.length)) some = some s2) (hg : getB s2 s.length = some (.loop st j env' ps' a' b')) (hst : (st == 1) = false) (h3 : seeT (setB s2 s.length (.loop 3 j env' ps' a' b')) some = some s3)
    (h : cont p k K Q (outOf j) e s3) : Run p k (.rangeFunc f live params assign body) e s (cont p k K Q) := rg ht hret (swapT hs1) hc hi hd has hbs hl (swapT hs) hg hst (swapT h3) h
end
end Go.Proofs.YtboekhenldifhaaGreat
/- Ends: blocks that point at their own kind only stay as they are. -/
set_option linter.unusedSimpArgs false
set_option linter.unusedVariables false
namespace Go.Proofs.YtboekhenldifhaaGreat
mutual
theorem ren_fix {m : Nat → Option Nat} : ∀ {x : V}, (∀ i ∈ refs x, m i = some i) → ren m x = x
  | .ptr id _ _ _, h => by simp only [ren, h id (by simp [refs])]
  | .ms id _ _ _, h => by simp only [ren, h id (by simp [refs])]
  | .asl id _ _ _ _, h => by simp only [ren, h id (by simp [refs])]
  | .map id, h => by simp only [ren, h id (by simp [refs])]
  | .yield id, h => by simp only [ren, h id (by simp [refs])]
  | .agg cs, h => by simp only [refs] at h; simp only [ren, renL_fix h]
  | .tuple cs, h => by simp only [refs] at h; simp only [ren, renL_fix h]
  | .func f a b, h => by
    simp only [refs, List.mem_append] at h
    simp only [ren, renL_fix (fun i hi => h i (.inl hi)), renL_fix (fun i hi => h i (.inr hi))]
  | .poison, _ => rfl
  | .d _, _ => rfl
  | .nils, _ => rfl
  | .emp, _ => rfl
  | .non, _ => rfl
  | .lit _, _ => rfl
theorem renL_fix {m : Nat → Option Nat} : ∀ {xs : List V}, (∀ i ∈ refsL xs, m i = some i) → renL m xs = xs
  | [], _ => rfl
  | x :: xs, h => by
    simp only [refsL, List.mem_append] at h
    simp only [renL, ren_fix (fun i hi => h i (.inl hi)), renL_fix (fun i hi => h i (.inr hi))]
end
theorem renR_fix {m : Nat → Option Nat} : ∀ {rs : List (List V)}, (∀ i ∈ refsR rs, m i = some i) → rs.map (renL m) = rs
  | [], _ => rfl
  | r :: rs, h => by
    simp only [refsR, List.mem_append] at h
    simp only [List.map_cons, renL_fix (fun i hi => h i (.inl hi)), renR_fix (fun i hi => h i (.inr hi))]
theorem renE_fix {m : Nat → Option Nat} : ∀ {l : List (Nat × V)}, (∀ i ∈ refsE l, m i = some i) → renE m l = l
  | [], _ => rfl
  | (t, x) :: l, h => by
    simp only [refsE, List.mem_append] at h
    have := renE_fix (m := m) (l := l) fun i hi => h i (.inr hi)
    simp only [renE, List.map_cons, ren_fix (fun i hi => h i (.inl hi))] at this ⊢
    rw [this]
theorem renM_fix {m : Nat → Option Nat} : ∀ {l : List (D × V)}, (∀ i ∈ refsM l, m i = some i) → (l.map fun (k, x) => (k, ren m x)) = l
  | [], _ => rfl
  | (t, x) :: l, h => by
    simp only [refsM, List.mem_append] at h
    have := renM_fix (m := m) (l := l) fun i hi => h i (.inr hi)
    simp only [List.map_cons, ren_fix (fun i hi => h i (.inl hi))] at this ⊢
    rw [this]
theorem renB_fix {m : Nat → Option Nat} {b : Blk} (h : ∀ i ∈ refsB b, m i = some i) : renB m b = b := by
  cases b with
  | rows v ro e els => simp only [refsB] at h; simp only [renB, renR_fix h]
  | map es => simp only [refsB] at h; simp only [renB, renM_fix h]
  | loop st j env ps a b => simp only [refsB] at h; simp only [renB, renE_fix h]
theorem reach_in {s : Store} {seen : List Nat} : ∀ (n : Nat) (todo : List Nat), (∀ i ∈ todo, i ∈ seen) → reach s n todo seen = seen
  | 0, _, _ => by simp [reach]
  | n + 1, [], _ => by simp [reach]
  | n + 1, i :: todo, h => by
    have hc : seen.contains i = true := by simpa using h i (by simp)
    simp only [reach, hc, if_true]
    exact reach_in n todo fun j hj => h j (by simp [hj])
/-- All blocks below k are there, and point below k. -/
def closed (s : Store) (k : Nat) : Prop := ∀ i, i < k → ∃ b, s[i]? = some (some b) ∧ ∀ j ∈ refsB b, j < k
theorem refsAt_in {s : Store} {k : Nat} (h : closed s k) : ∀ (l : List Nat), (∀ i ∈ l, i < k) → ∀ j ∈ refsAt s l, j < k
  | [], _, j, hj => by simp [refsAt] at hj
  | i :: l, hl, j, hj => by
    obtain ⟨b, hb, hr⟩ := h i (hl i (by simp))
    simp only [refsAt, getB, hb, Option.join_some, List.mem_append] at hj
    rcases hj with hj | hj
    · exact hr j hj
    · exact refsAt_in h l (fun x hx => hl x (by simp [hx])) j hj
theorem gc_closed {s : Store} {k : Nat} (h : closed s k) {roots : List Nat} (hr : ∀ i ∈ roots, i < k) : gcIds s k roots = List.range k := by
  unfold gcIds
  refine reach_in _ _ fun i hi => ?_
  rw [List.mem_append] at hi
  rw [List.mem_range]
  rcases hi with hi | hi
  · exact hr i hi
  · exact refsAt_in h _ (fun j hj => List.mem_range.1 hj) i hi
theorem pos_range {k i : Nat} (h : i < k) : pos (List.range k) i = some i := by
  unfold pos
  rw [List.findIdx?_eq_some_iff_getElem]
  refine ⟨by simpa using h, by simp, fun j hj => ?_⟩
  simp; omega
theorem pack_closed {s : Store} {k : Nat} (h : closed s k) : pack s (List.range k) (pos (List.range k)) = s.take k := by
  refine List.ext_getElem? fun i => ?_
  unfold pack
  by_cases hi : i < k
  · obtain ⟨b, hb, hr⟩ := h i hi
    rw [List.getElem?_map, List.getElem?_range hi, List.getElem?_take_of_lt hi, hb]
    simp only [Option.map_some, getB, hb, Option.join_some]
    rw [renB_fix fun j hj => pos_range (hr j hj)]
  · rw [List.getElem?_eq_none (by simp; omega), List.getElem?_eq_none (by simp; omega)]
theorem leave_closed {s : Store} {k : Nat} {x : V} (h : closed s k) (hx : ∀ i ∈ refs x, i < k) : leave true k x s = some (x, s.take k) := by
  unfold leave
  simp only [if_true, gc_closed h hx, pack_closed h, ren_fix fun i hi => pos_range (hx i hi)]
theorem end_closed {k id : Nat} {s2 s3 bs' : Store} {st : Nat} {j : Jump} {env' : List (Nat × V)} {ps' : List Nat} {a' b' : VCode} (hg : getB s2 id = some (.loop st j env' ps' a' b')) (hs : seeT (setB s2 id (.loop 0 .none env' ps' a' b')) some = some s3) (hc : closed s3 k) (he : s3.take k = bs') : endRound k id .normal s2 = some (.d (.bool true), bs') := by
  rw [seeT_eq] at hs; injection hs with hs
  unfold endRound
  simp only [hg, hs]
  rw [leave_closed hc (by simp [refs]), he]
theorem end_closed' {k id : Nat} {s2 s3 bs' : Store} {st : Nat} {j : Jump} {env' : List (Nat × V)} {ps' : List Nat} {a' b' : VCode} (hg : getB s2 id = some (.loop st j env' ps' a' b')) (hs : setB s2 id (.loop 0 .none env' ps' a' b') = s3) (hc : closed s3 k) (he : s3.take k = bs') : endRound k id .normal s2 = some (.d (.bool true), bs') :=
  end_closed hg (by rw [seeT_eq, hs]) hc he
end Go.Proofs.YtboekhenldifhaaGreat
/- What is reached, told from a table of the references of each block. -/
set_option linter.unusedSimpArgs false
set_option linter.unusedVariables false
namespace Go.Proofs.YtboekhenldifhaaGreat
def tab (s : Store) : List (Option (List Nat)) := s.map fun b => b.map refsB
def reachT (t : List (Option (List Nat))) : Nat → List Nat → List Nat → List Nat
  | 0, _, seen => seen
  | _, [], seen => seen
  | n + 1, i :: todo, seen =>
    if seen.contains i then reachT t n todo seen
    else match (t[i]?).join with
      | some b => reachT t n (todo ++ b) (seen ++ [i])
      | none => reachT t n todo seen
theorem tab_get (s : Store) (i : Nat) : ((tab s)[i]?).join = (getB s i).map refsB := by
  unfold tab getB
  rw [List.getElem?_map]
  cases s[i]? with
  | none => rfl
  | some b => cases b <;> rfl
theorem reach_tab (s : Store) : ∀ (n : Nat) (todo seen : List Nat), reach s n todo seen = reachT (tab s) n todo seen
  | 0, _, _ => by simp [reach, reachT]
  | n + 1, [], _ => by simp [reach, reachT]
  | n + 1, i :: todo, seen => by
    simp only [reach, reachT, tab_get]
    split
    · exact reach_tab s n todo seen
    · cases getB s i with
      | none => exact reach_tab s n todo seen
      | some b => exact reach_tab s n _ _
def refsAtT (t : List (Option (List Nat))) : List Nat → List Nat
  | [] => []
  | i :: r => (match (t[i]?).join with | some b => b | none => []) ++ refsAtT t r
theorem refsAt_tab (s : Store) : ∀ l : List Nat, refsAt s l = refsAtT (tab s) l
  | [] => rfl
  | i :: l => by
    simp only [refsAt, refsAtT, tab_get, refsAt_tab s l]
    cases getB s i <;> rfl
theorem gc_tab {s : Store} {t : List (Option (List Nat))} (h : tab s = t) (k : Nat) (roots : List Nat) : gcIds s k roots = reachT t 100000 (roots ++ refsAtT t (List.range k)) (List.range k) := by
  subst h
  unfold gcIds
  rw [reach_tab, refsAt_tab]; rfl
end Go.Proofs.YtboekhenldifhaaGreat
/- Rules for rows whose version, length and place are not seen. -/
set_option linter.unusedSimpArgs false
set_option linter.unusedVariables false
namespace Go.Proofs.YtboekhenldifhaaGreat
variable {p : VProg}
section
variable {b0 : Nat} {d : Option Nat} {os : List VOper} {e : Env} {s s1 : Store} {Q : Env → Store → Prop}
/-- The length of a slice of a block. -/
theorem oln {x : Opd} {id ver off len v esz : Nat} {ro : Bool} {els : List (List V)} (hx : ev e x = .ms id ver off len) (hb : getB s id = some (.rows v ro esz els)) (hv : v = ver) (h : Ops p b0 os (put e d (.d (.int .i64 len))) s Q) : Ops p b0 (⟨d, .len .slice x, none⟩ :: os) e s Q :=
  ops_cons (fun call => by simp [runOper, wants, runOp, hx, lenK, lenV, verOf, hb, hv, intV]) h
/-- The address of a row. -/
theorem oim {x y : Opd} {id ver off len v n i : Nat} {k : IntKind} {ro : Bool} {els : List (List V)} {esz : Nat} (hx : ev e x = .ms id ver off len) (hy : ev e y = .d (.int k i)) (hb : getB s id = some (.rows v ro n els)) (hv : v = ver) (hn : n = esz) (hi : i < len) (hl : off + len ≤ els.length) (h : Ops p b0 os (put e d (.ptr id ver (off + i) 0)) s Q) : Ops p b0 (⟨d, .iaddrS esz x y, none⟩ :: os) e s Q :=
  ops_cons (fun call => by simp [runOper, wants, runOp, hx, hy, iaddrSV, idx, hb, hv, hn, hi, hl]) h
/-- One cell of a row. -/
theorem olm {a : Opd} {id ver i j v esz : Nat} {ro : Bool} {els : List (List V)} {cs : List V} {x : V} (ha : ev e a = .ptr id ver i j) (hb : getB s id = some (.rows v ro esz els)) (hv : v = ver) (hi : els[i]? = some cs) (hj : cs[j]? = some x) (h : Ops p b0 os (put e d x) s Q) : Ops p b0 (⟨d, .load false 1 a, none⟩ :: os) e s Q :=
  ops_cons (fun call => by
    have hl : j + 1 ≤ cs.length := (List.getElem?_eq_some_iff.1 hj).1
    simp [runOper, wants, runOp, ha, loadV, hb, hv, hi, hl, hj]) h
/-- One cell of a row is written. -/
theorem osm {a y : Opd} {id ver i j v esz : Nat} {els : List (List V)} {cs : List V} {x : V} (ha : ev e a = .ptr id ver i j) (hy : ev e y = x) (hb : getB s id = some (.rows v false esz els)) (hv : v = ver) (hi : els[i]? = some cs) (hj : j < cs.length) (hx : x.cells = [x]) (hsc : scalarV x = true) (h : Ops p b0 os (put e d skipV) (setB s id (.rows v false esz (els.set i (splice cs j [x])))) Q) : Ops p b0 (⟨d, .store 1 a y, none⟩ :: os) e s Q :=
  ops_cons (fun call => by
    have hl : j + 1 ≤ cs.length := hj
    simp [runOper, wants, runOp, ha, hy, storeV, hb, hv, hi, hl, hx, hsc]) h
/-- The beginning of a slice of a block. -/
theorem obm {x y : Opd} {id ver len v esz n : Nat} {k : IntKind} {ro : Bool} {els : List (List V)} (hx : ev e x = .ms id ver 0 len) (hy : ev e y = .d (.int k (n + 1 : Nat))) (hb : getB s id = some (.rows v ro (esz + 1) els)) (hv : v = ver) (hn : n + 1 ≤ len) (h : Ops p b0 os (put e d (.ms id ver 0 (n + 1))) s Q) : Ops p b0 (⟨d, .slice (esz + 1) x none (some y), none⟩ :: os) e s Q :=
  ops_cons (fun call => by
    have h1 : (0 : Int) ≤ ((n + 1 : Nat) : Int) := by omega
    have h2 : ((n : Int) + 1).toNat = n + 1 := by omega
    have h3 : (0 : Int) ≤ (n : Int) + 1 := by omega
    simp [runOper, wants, runOp, hx, hy, isStr, sliceV, lenV, verOf, hb, hv, bound, hn, h1, h2, h3]) h
end
/-- A call of a function value, told by equations. -/
theorem oVp {b0 : Nat} {d : Option Nat} {os : List VOper} {e : Env} {s s2 : Store} {Q : Env → Store → Prop} {fv : Opd} {f : Nat} {xa xb : List V} {args : List Opd} {as as' : List V} {fz ids : List Nat} {r0 v : V} {bs bs0 : Store} (ht0 : target (ev e fv) = some (.fn f, xa, xb)) (hret : Ret p (.fn f) as' bs0 r0 bs) (hc : convArgs s (flagsOf p f) (xa ++ args.map (ev e) ++ xb) = some (as, fz)) (hi : reach s (budget s) (refsL as) [] = ids) (hd : (ids.all fun i => !fz.contains i) = true)
    (has : renL (pos ids) as = as') (hbs : pack s ids (pos ids) = bs0) (hl : (decide (ids.length ≤ bs.length) && allS (bs.take ids.length)) = true) (hv : ren (backOf ids bs s.length) r0 = v) (hs : storeBack ids bs (if lends ids bs r0 then s else closeB s fz) (backOf ids bs s.length) = s2) (h : Ops p b0 os (put e d v) s2 Q) : Ops p b0 (⟨d, .callv fv args, none⟩ :: os) e s Q :=
  oV (t := .fn f) (t' := .fn f) ht0 hc hi hd rfl (by rw [seeVs_eq, has]) (by rw [seeS_eq, hbs]) hret hl (by rw [seeV_eq, hv]) (by rw [seeS_eq, hs]) h
/-- A round, told by equations. -/
theorem oVrp {b0 : Nat} {d : Option Nat} {os : List VOper} {e : Env} {s s2 : Store} {Q : Env → Store → Prop} {fv : Opd} {id id' : Nat} {args : List Opd} {as as' : List V} {fz ids : List Nat} {r0 v : V} {bs bs0 : Store} (ht0 : ev e fv = .yield id) (hret : Ret p (.round id') as' bs0 r0 bs) (hc : convArgs s [] (args.map (ev e)) = some (as, fz)) (hi : reach s (budget s) (id :: refsL as) [] = ids) (hd : (ids.all fun i => !fz.contains i) = true) (ht : pos ids id = some id')
    (has : renL (pos ids) as = as') (hbs : pack s ids (pos ids) = bs0) (hl : (decide (ids.length ≤ bs.length) && allS (bs.take ids.length)) = true) (hv : ren (backOf ids bs s.length) r0 = v) (hs : storeBack ids bs (if lends ids bs r0 then s else closeB s fz) (backOf ids bs s.length) = s2) (h : Ops p b0 os (put e d v) s2 Q) : Ops p b0 (⟨d, .callv fv args, none⟩ :: os) e s Q :=
  oV (t := .round id) (xa := []) (xb := []) (t' := .round id') (by rw [ht0]; rfl) (by simpa using hc) hi hd (by simp [tgtAt, ht]) (by rw [seeVs_eq, has]) (by rw [seeS_eq, hbs]) hret hl (by rw [seeV_eq, hv]) (by rw [seeS_eq, hs]) h
/-- A call that is lent blocks, told by equations. -/
theorem oRp {b0 : Nat} {d : Option Nat} {os : List VOper} {e : Env} {s s2 : Store} {Q : Env → Store → Prop} {f : Nat} {args : List Opd} {as as' : List V} {fz ids : List Nat} {r0 v : V} {bs bs0 : Store} (hret : Ret p (.fn f) as' bs0 r0 bs) (hc : convArgs s (flagsOf p f) (args.map (ev e)) = some (as, fz)) (hi : reach s (budget s) (refsL as) [] = ids) (hd : (ids.all fun i => !fz.contains i) = true)
    (has : renL (pos ids) as = as') (hbs : pack s ids (pos ids) = bs0) (hl : (decide (ids.length ≤ bs.length) && allS (bs.take ids.length)) = true) (hv : ren (backOf ids bs s.length) r0 = v) (hs : storeBack ids bs (if lends ids bs r0 then s else closeB s fz) (backOf ids bs s.length) = s2) (h : Ops p b0 os (put e d v) s2 Q) : Ops p b0 (⟨d, .call f args, none⟩ :: os) e s Q :=
  oR hc hi hd (by rw [seeVs_eq, has]) (by rw [seeS_eq, hbs]) hret hl (by rw [seeV_eq, hv]) (by rw [seeS_eq, hs]) h
theorem refsE_livesV (e : Env) : ∀ l : List Nat, refsE (lives e l) = refsL (l.map e)
  | [] => rfl
  | t :: l => by
    have := refsE_livesV e l
    simp only [lives, List.map_cons, refsE, refsL] at this ⊢
    rw [this]
theorem renL_lives (m : Nat → Option Nat) (e : Env) : ∀ l : List Nat, renL m (l.map e) = l.map fun t => ren m (e t)
  | [] => rfl
  | t :: l => by simp only [List.map_cons, renL, renL_lives m e l]
/-- The head of a loop, told by equations. -/
theorem hdp {k : Nat} {live : List Nat} {body : VCode} {e : Env} {s s1 : Store} {ids : List Nat} {vs0 vs : List V} {K : List Fr} {Q : Out → Env → Store → Prop} (hv : live.map e = vs0) (hi : gcIds s k (refsL vs0) = ids) (hw : renL (pos ids) vs0 = vs) (hs : pack s ids (pos ids) = s1) (hb : Head p k live body vs s1 K Q) : Loop p k live body e s (cont p k K Q) := by
  have he : refsE (lives e live) = refsL vs0 := by rw [← hv]; exact refsE_livesV e live
  refine loop_head (s1 := s1) (vs := vs) ?_ hb
  unfold sweepTo
  rw [seeVs_eq, seeS_eq, he, hi, hs, ← hw, ← hv, renL_lives]
/-- The end of a function that hands back data, where the blocks that were lent point at their own kind only. -/
theorem fin_closed {k : Nat} {res : List VRes} {e : Env} {s bs' : Store} {xs : List V} {x : D} (hr : results e s res = some xs) (hd : toD s depthD (oneOf xs) = some (x, [])) (hc : closed s k) (ht : s.take k = bs') : fin false k res .ret e s = some (.d x, bs') := by
  have hcl : closeB s [] = s := rfl
  simp only [fin, hr, leave, Bool.false_eq_true, if_false, hd, hcl, gc_closed hc (roots := []) (by simp), pack_closed hc, ht]
theorem fin_closed' {k : Nat} {res : List VRes} {e : Env} {s s' bs' : Store} {xs : List V} {x : D} (hs : s = s') (hr : results e s' res = some xs) (hd : toD s' depthD (oneOf xs) = some (x, [])) (hc : closed s' k) (ht : s'.take k = bs') : fin false k res .ret e s = some (.d x, bs') := by
  subst hs; exact fin_closed hr hd hc ht
theorem fin_gc {k : Nat} {res : List VRes} {e : Env} {s bs' : Store} {xs : List V} {x : D} {ids : List Nat} (hr : results e s res = some xs) (hd : toD s depthD (oneOf xs) = some (x, [])) (hi : gcIds s k [] = ids) (ht : pack s ids (pos ids) = bs') : fin false k res .ret e s = some (.d x, bs') := by
  have hcl : closeB s [] = s := rfl
  simp only [fin, hr, leave, Bool.false_eq_true, if_false, hd, hcl, hi, ht]
theorem fin_fz {k : Nat} {res : List VRes} {e : Env} {s s' bs' : Store} {xs : List V} {x : D} {fz ids : List Nat} (hr : results e s res = some xs) (hd : toD s depthD (oneOf xs) = some (x, fz)) (hs : closeB s fz = s') (hi : gcIds s' k [] = ids) (ht : pack s' ids (pos ids) = bs') : fin false k res .ret e s = some (.d x, bs') := by
  simp only [fin, hr, leave, Bool.false_eq_true, if_false, hd, hs, hi, ht]
theorem end_closedR {k id : Nat} {s2 s3 bs' : Store} {st : Nat} {j : Jump} {env' : List (Nat × V)} {ps' : List Nat} {a' b' : VCode} (hg : getB s2 id = some (.loop st j env' ps' a' b')) (hs : setB s2 id (.loop 2 .ret env' ps' a' b') = s3) (hc : closed s3 k) (he : s3.take k = bs') : endRound k id .ret s2 = some (.d (.bool false), bs') := by
  unfold endRound
  simp only [hg, hs]
  rw [leave_closed hc (by simp [refs]), he]
theorem run_ex {p : VProg} {α : Type} {k : Nat} {c : VCode} {e : Env} {s : Store} {P : α → Out → Env → Store → Prop} (h : Run p k c e s fun o e s => ∃ x, P x o e s) : ∃ x, Run p k c e s (P x) := by
  unfold Run at h ⊢
  obtain ⟨o, e', s', ⟨x, hx⟩, hr⟩ := h
  exact ⟨x, o, e', s', hx, hr⟩
theorem closed_of {s : Store} {k : Nat} (h : ∀ i, i < k → ∃ b, s[i]? = some (some b) ∧ (refsB b).all (fun j => decide (j < k)) = true) : closed s k := by
  intro i hi
  obtain ⟨b, h1, h2⟩ := h i hi
  exact ⟨b, h1, fun j hj => of_decide_eq_true (List.all_eq_true.1 h2 j hj)⟩
end Go.Proofs.YtboekhenldifhaaGreat
