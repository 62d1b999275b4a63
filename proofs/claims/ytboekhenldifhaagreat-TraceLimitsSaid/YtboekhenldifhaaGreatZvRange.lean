/- A range over a function. -/
import Derived.RangeFuncRecord
import Derived.Test.YtboekhenldifhaaGreatZvCode
set_option linter.unusedSimpArgs false
set_option linter.unusedVariables false
namespace Go.Proofs.YtboekhenldifhaaGreat
open Go.RowKit
variable {mu : Bool}
variable {P : Program} {fo : Nat → Option FuncId} {K K0 : Known} {ρ ρ0 : Places} {w w0 : World} {tr : FuncId → Option Nat} {base N : Nat} {s s' s0 : Store}
/-- A block that the store does not know. -/
theorem RS.junk {o : Obj} (h : RS P fo base K ρ s w) : RS P fo base K ρ s (w.alloc o) ∧ Stp base K ρ s w K ρ s (w.alloc o) := by
  have hold : ∀ B, B < w.heap.size → (w.alloc o).heap[B]? = w.heap[B]? := fun B hB => Below.heap_alloc _ _ _ hB
  refine ⟨⟨fun B o' v hv => ?_, fun j b hj => ?_, h.inj, ?_, h.one⟩, ⟨fun _ _ _ h => h, .refl, (Below.refl _ _).alloc h.base o, fun B hB _ => hold B hB, fun j b hj _ => ⟨j, b, hj, rfl⟩, fun B o v h h' _ => by rw [h] at h'; cases h'⟩⟩
  · obtain ⟨c, t, z, h1, h2⟩ := h.known B o' v hv
    exact ⟨c, t, z, (hold B (Array.getElem?_eq_some_iff.1 h1).1).trans h1, h2⟩
  · obtain ⟨h1, h2⟩ := h.blk j b hj
    exact ⟨h1.mono (fun _ _ _ h => h) .refl (hold _ h1.lt) (fun h => h), h2⟩
  · have := h.base; simp; omega
theorem lives_mem {e : Env} {live : List Nat} {t : Nat} {x : V} (h : (t, x) ∈ lives e live) : x = e t := by
  simp only [lives, List.mem_map] at h
  obtain ⟨u, _, h⟩ := h
  injection h with h1 h2; rw [← h2, h1]
theorem stOf_busy {st : LoopState} (h : stOf st ≠ 1) : st ≠ .busy := by rintro rfl; exact h rfl
variable {call : CallSem} {flags : Nat → List Bool} {F : Fence}
theorem range_ok (hf : FnOK P fo) (hcall : CallOK P fo base call) (htr : ∀ g f, tr g = some f → fo f = some g) : RangeOK P fo base N K0 ρ0 s0 w0 call flags tr F := by
  intro mu f ps ca cb la lb live e s a w out e' s' Q hFw hdst hna hnb hI h hQ
  subst hFw
  obtain ⟨K, ρ, hS, hT, hE, hN, hds⟩ := hI
  simp only [dstsOk, Bool.and_eq_true, List.all_eq_true, decide_eq_true_eq] at hdst
  obtain ⟨⟨hps, hda⟩, hdb⟩ := hdst
  simp only [runRange] at h
  split at h <;> try (cases h; done)
  rename_i g xa xb htgt
  split at h <;> try (cases h; done)
  rename_i r s2 hcallout
  split at h <;> try (cases h; done)
  rename_i st j env' ps' a' b' hb2
  split at h <;> try (cases h; done)
  rename_i hst
  -- the value that is ranged over
  have hq : RV fo K ρ (vo s) (ev e (opd tr f)) (a.eval f) := opd_spec htr hE f
  have hfun : ∃ gid va vb, fo g = some gid ∧ a.eval f = .func (.func gid) va vb ∧ RVs fo K ρ (vo s) xa va.toList ∧ RVs fo K ρ (vo s) xb vb.toList := by
    generalize hv : a.eval f = vf at hq
    generalize hx : ev e (opd tr f) = q at hq htgt
    cases q with
    | d z =>
      cases z with
      | func k p q =>
        simp only [target] at htgt
        injection htgt with ht; injection ht with t1 t2; injection t2 with t2 t3; subst t2; subst t3; injection t1 with t1; subst t1
        cases hq with | d _ _ hq =>
        cases hq with | func _ g _ _ va vb hk h1 h2 =>
        exact ⟨g, va, vb, hk, rfl, .of_d h1, .of_d h2⟩
      | _ => simp [target] at htgt
    | func k p q =>
      simp only [target] at htgt
      injection htgt with ht; injection ht with t1 t2; injection t2 with t2 t3; subst t2; subst t3; injection t1 with t1; subst t1
      cases hq with | func _ g _ _ va vb hk h1 h2 =>
      exact ⟨g, va, vb, hk, rfl, h1, h2⟩
    | yield id => simp only [target] at htgt; injection htgt with ht; injection ht with t1 t2; cases t1
    | _ => simp [target] at htgt
  obtain ⟨gid, va, vb, hgo, hev, hva, hvb⟩ := hfun
  refine wpIn_rangeFunc fun fn hfn => ?_
  obtain ⟨w1, hw1⟩ : ∃ w1, w.alloc (.deferred (some [])) = w1 := ⟨_, rfl⟩
  have hsz1 : w1.heap.size = w.heap.size + 1 := by rw [← hw1]; simp
  obtain ⟨hS1, hT1⟩ := hS.junk (o := .deferred (some []))
  rw [hw1] at hS1 hT1
  obtain ⟨L, hL⟩ : ∃ L : Loop, L = { state := .ready, pending := none, fn, tmps := a.tmps, params := ps, assign := ca, body := cb, defers := w.heap.size } := ⟨_, rfl⟩
  have hset : (s ++ List.replicate 1 none).set s.length (some (Blk.loop 0 .none (lives e live) ps.toList (compCode P tr mu ca la).1 (compCode P tr mu cb lb).1)) = s ++ [some (.loop 0 .none (lives e live) ps.toList (compCode P tr mu ca la).1 (compCode P tr mu cb lb).1)] := by
    simp [List.set_append]
  have hidl : s.length < (s ++ List.replicate 1 none).length := by simp
  have hidn : getB (s ++ List.replicate 1 none) s.length = none := by rw [getB_append_none]; unfold getB; simp
  have hLat : Later ρ (placed ρ s.length w1.heap.size 0) (vo (s ++ List.replicate 1 none)) (vo ((s ++ List.replicate 1 none).set s.length (some (Blk.loop 0 .none (lives e live) ps.toList (compCode P tr mu ca la).1 (compCode P tr mu cb lb).1)))) := .new hidl hidn
  have hnew := RS.new (size := 0) (o := .loop L) (hS1.reserve (n := 1)) hidl hidn
    (b := .loop 0 .none (lives e live) ps.toList (compCode P tr mu ca la).1 (compCode P tr mu cb lb).1)
    (RBlk.loop 0 .none _ ps.toList _ _ w1.heap.size 0 L N (World.alloc_heap_new w1 _) (by rw [hL]; rfl) (by rw [hL]; rfl)
      (fun t x hx => by
        rw [lives_mem hx, hL]
        exact (hE t).mono (fun _ _ _ h => h) (by rw [← vo_append_none (n := 1)]; exact hLat))
      (by rw [hL]) ⟨tr, la, mu, htr, by rw [hL], hda, hna⟩ ⟨tr, lb, mu, htr, by rw [hL], hdb, hnb⟩ (by rw [hL]; exact hN) (fun t ht => by rw [hL]; exact Nat.lt_of_lt_of_le (hps t ht) hN)
      (fun o => by
        cases hk : K w1.heap.size o with
        | none => rfl
        | some u =>
          obtain ⟨c, t, z, h1, _⟩ := hS1.known _ _ _ hk
          have := (Array.getElem?_eq_some_iff.1 h1).1
          omega))
  rw [hset] at hnew
  obtain ⟨hS2, hT2⟩ := hnew
  have hT12 := (hT1.trans (Stp.reserve (n := 1))).trans hT2
  obtain ⟨ρ2, hρ2⟩ : ∃ ρ2, placed ρ s.length w1.heap.size 0 = ρ2 := ⟨_, rfl⟩
  rw [hρ2] at hS2 hT2 hT12
  have hplace : (ρ2 s.length).1 = w.heap.size + 1 := by rw [← hρ2]; simp [placed, hsz1]
  generalize hs1 : s ++ [some (Blk.loop 0 .none (lives e live) ps.toList (compCode P tr mu ca la).1 (compCode P tr mu cb lb).1)] = s1 at *
  have hvo : vo s1 s.length = some (0, 0) := by rw [← hs1]; simp [vo, getB]
  have hargs : RVs fo K ρ2 (vo s1) (xa ++ [.yield s.length] ++ xb) (va ++ (#[Value.func (.yield (w.heap.size + 1)) #[] #[]] : Array Value) ++ vb).toList := by
    simp only [Array.toList_append]
    refine ((hva.mono hT12.known hT12.later).append (.cons _ _ _ _ ?_ .nil)).append (hvb.mono hT12.known hT12.later)
    rw [← hplace]; exact .yield s.length 0 hvo
  have hc := callOut_spec hcall hS2 hargs hcallout gid hgo
  refine ⟨w.heap.size + 1, [{ target := .collected w.heap.size, args := #[] }], w1.alloc (.loop L), { target := .fn (.func gid) vb, args := va ++ #[Value.func (.yield (w.heap.size + 1)) #[] #[]] }, w1.alloc (.loop L), gid,
    va ++ #[Value.func (.yield (w.heap.size + 1)) #[] #[]] ++ vb, w1.alloc (.loop L), ?_, ?_, ?_, ?_, fun hh => ?_, ?_⟩
  · have := run_enterLoop_outer (P := P) (w := w) fn a.tmps ps ca cb
    rw [hL, ← hw1]; exact this
  · simp only [resolve, hev, Deferred.ofValue, Sem.run_pure]
    simp [go_sem]
  · intro f' _; trivial
  · simp only [invoke]; exact run_callFunc hf hgo _
  · simp [Fence.wide] at hh
  · refine hc.mono fun en w3 hd => ?_
    obtain ⟨v, K3, ρ3, rfl, hS3, hT3, _⟩ := hd
    obtain ⟨v', q1, q2, q3, q4⟩ := hT3.later s.length 0 0 hvo
    have hpl : (ρ3 s.length).1 = w.heap.size + 1 := by rw [q3 (q4 rfl).symm, hplace]
    obtain ⟨hblk, hbs⟩ := hS3.blk _ _ hb2
    rw [vo] at q1
    simp only [hb2] at q1
    generalize hpp : ρ3 s.length = pp at hblk hpl hbs
    cases hblk with
    | loop _ _ _ _ _ _ B size l N' c1 c2 c3 c4 c5 c6 c7 c8 c9 c10 =>
      simp only at hpl
      subst hpl
      have hbusy : l.state ≠ .busy := stOf_busy (by rw [c2]; exact hst)
      have hend := run_endLoop (P := P) c1 hbusy
      have hlt : w.heap.size + 1 < w3.heap.size := (Array.getElem?_eq_some_iff.1 c1).1
      -- the record is exhausted
      have hw := RS.write (w' := w3.putObj (w.heap.size + 1) (.loop { l with state := .exhausted })) (b := .loop 3 j env' ps' a' b') (v0 := 0) (v1 := 0) (e := 0) hS3 hb2 (by simp [vo, hb2]) rfl (Nat.le_refl _) (fun _ => rfl)
        (by rw [hpp]; exact c10)
        (by rw [hpp]; exact ⟨rfl, rfl, rfl, by simp, fun k hk => World.putObj_heap_other (by omega)⟩)
        (by rw [hpp]; exact fun B hB => World.putObj_heap_other hB) (by simp)
        (by
          rw [hpp]
          refine .loop 3 j env' ps' a' b' _ _ { l with state := .exhausted } N' (World.putObj_heap_same hlt) rfl c3 (fun t x hx => (c4 t x hx).mono (fun _ _ _ h => h) ?_) c5 c6 c7 c8 c9 c10
          intro id v e hv
          refine ⟨v, ?_, Nat.le_refl _, fun _ => rfl, fun _ => rfl⟩
          rw [vo_set (getB_lt hb2)]
          by_cases hid : id = s.length
          · subst hid; simpa [vo, hb2] using hv
          · rw [if_neg hid]; exact hv)
      obtain ⟨hS4, hT4⟩ := hw
      have hTall := hT12.trans (hT3.trans hT4)
      have hI' : Inv P fo base N K0 ρ0 s0 w0 e (setB s2 s.length (.loop 3 j env' ps' a' b')) { a with defers := { target := .collected w.heap.size, args := #[] } :: a.defers } (w3.putObj (w.heap.size + 1) (.loop { l with state := .exhausted })) := by
        refine ⟨K3, ρ3, hS4, hT.trans hTall, hE.mono hTall.known hTall.later, hN, ?_⟩
        have hm : Marks w0 ρ s w1 ({ target := .collected w.heap.size, args := #[] } :: a.defers) := by
          obtain ⟨bs, b1, b2, b3⟩ := hds.step hT1
          obtain ⟨bs0, d1, d2, d3⟩ := hds
          have hbs0 : ∀ b ∈ bs, b < w.heap.size := fun b hb => by
            have hbb : bs = bs0 := by
              have e : ∀ (x y : List Nat), x.map (fun b => ({ target := .collected b, args := #[] } : Deferred)) = y.map (fun b => { target := .collected b, args := #[] }) → x = y := fun x y h =>
                (List.map_inj_right fun a b h => by injection h with h _; injection h).1 h
              exact e _ _ (b1.symm.trans d1)
            rw [hbb] at hb
            exact (Array.getElem?_eq_some_iff.1 (d3 b hb).2.1).1
          refine ⟨w.heap.size :: bs, by rw [b1]; rfl, List.nodup_cons.2 ⟨fun hb => absurd (hbs0 _ hb) (by omega), b2⟩, fun b hb => ?_⟩
          rcases List.mem_cons.1 hb with rfl | hb
          · refine ⟨hT.below.size, by rw [← hw1]; exact World.alloc_heap_new w _, fun id blk hid he => ?_⟩
            have := (hS.blk id blk hid).1.lt
            omega
          · exact b3 b hb
        have hT2' : Stp base K ρ s w1 K ρ2 s1 (w1.alloc (.loop L)) := Stp.reserve.trans hT2
        exact (hm.step hT2').step (hT3.trans hT4)
      refine ⟨l.pending, _, hend, ?_⟩
      cases j with
      | none =>
        simp only [jcode] at c3
        rw [c3] at hI' ⊢
        simp only at h ⊢
        injection h with h; injection h with h1 h2; injection h2 with h2 h3; subst h1; subst h2; subst h3
        exact hQ _ _ hI'
      | exit x =>
        simp only [jcode] at c3
        rw [c3] at hI' ⊢
        simp only at h ⊢
        injection h with h; injection h with h1 h2; injection h2 with h2 h3; subst h1; subst h2; subst h3
        exact wpIn_exit (hQ _ _ hI')
      | ret =>
        simp only [jcode] at c3
        rw [c3] at hI' ⊢
        simp only at h ⊢
        injection h with h; injection h with h1 h2; injection h2 with h2 h3; subst h1; subst h2; subst h3
        exact wpIn_ret (hQ _ _ hI')
end Go.Proofs.YtboekhenldifhaaGreat
