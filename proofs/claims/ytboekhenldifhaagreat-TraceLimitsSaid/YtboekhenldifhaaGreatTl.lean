/- TraceLimits holds: the machine answers true for every argument, and what the machine answers the program does. -/
import Derived.Test.YtboekhenldifhaaGreatRows
import Derived.Test.YtboekhenldifhaaGreatZd
import Derived.Test.YtboekhenldifhaaGreatTlF
import Derived.Test.YtboekhenldifhaaGreatZvTx
import Derived.WalkKit
import Derived.ProofKit
namespace Go.Proofs.YtboekhenldifhaaGreat
open Go.ChangeShapes Go.WideShapes Go.ChangeAt Go.RowKit
theorem Tryz.own : ownKnob Tryz.prog.godebug = none := by kernel_rfl
theorem Tryz.laidOut : laidOutB Tryz.prog = true := by kernel_rfl
set_option maxRecDepth 100000 in
theorem lifted (os : Os) (started : os.Started) (H : Type) (enc : TypeId × Value → H) :
    ReturnsInHanded {} Tryz.checked os 4 .any (Rows.traceLimitsSpec.pre6 enc Tryz.prog Tryz.f4 Rows.traceLimitsRow.domain false) (Rows.traceLimitsSpec.post enc Tryz.prog Tryz.f4 false true false false) := by
  refine returnsInHanded_of_change (C := Tryz.checked) Tryz.own started (by kernel_rfl) Tryz.func4
    (ChangeSpec.witness6 (enc := enc) (C := Tryz.checked) false ⟨#[], #[.int .u8 0, .bool false], []⟩ 8 (by kernel_rfl) (by kernel_rfl) (by kernel_rfl) (by kernel_rfl)) ?_
  intro W base args ds gs before hval0 hW hcnd _
  have hval : ∀ (j : Nat) t v, Tryz.f4.params[j]? = some t → args[j]? = some v → Value.okWide Tryz.prog W .any base t v := hval0
  have hW' := hW
  obtain ⟨p, q, hA0, hV, rfl, hfz, hnd⟩ := hW
  have hA : DataW.TrodAll enc Tryz.prog W 0 (fun _ => true) true Tryz.f4.params.toList args.toList ds p := hA0
  rw [Tryz.params4] at hA hval
  obtain ⟨v0, v1, d0, d1, p0, p1, rfl, rfl, rfl, h0, h1⟩ := trodAll_two hA
  obtain ⟨rfl, rfl⟩ := trodVars_none hV
  have h0k := h0
  have h1k := h1
  obtain ⟨n0, rfl, rfl, rfl, w0⟩ := open_int Tryz.underlying5 (hval 0 5 v0 rfl rfl) h0
  obtain ⟨n1, rfl, rfl, rfl⟩ := open_bool Tryz.underlying4 (hval 1 4 v1 rfl rfl) h1
  clear hA0 hval0
  have hn0 : 0 ≤ n0 ∧ n0 < 256 := by
    simp only [Lit.wf, Bool.and_eq_true, decide_eq_true_eq] at w0
    have e1 : IntKind.u8.min = 0 := rfl
    have e2 : IntKind.u8.max = 255 := rfl
    omega
  have hR := limits_ret n0 n1 hn0
  unfold Ret Evt at hR
  obtain ⟨m, hm⟩ := hR
  refine (run_calls (K := fun _ _ => none) (vargs := #[.int .u8 n0, .bool n1]) prog_ok (g := 4) (by kernel_rfl) (fun B o v hv => by cases hv) (.cons _ _ _ _ (.int _ _) (.cons _ _ _ _ (.bool _) .nil)) (hm m (Nat.le_refl _))).mono fun e W' he => ?_
  obtain ⟨v, rfl, hb, K', hr⟩ := he
  cases hr
  refine ⟨_, rfl, [_, _], [], _, [], _, [], hW', trodAll_mk1 (shut_bool Tryz.underlying4 true), trodAll_mk2 (Below.trod Tryz.laidOut (by kernel_rfl) (of_decide_eq_true (by kernel_rfl)) h0k hb (by simp)) (Below.trod Tryz.laidOut (by kernel_rfl) (of_decide_eq_true (by kernel_rfl)) h1k hb (by simp)), rfl, hb.frame _, fun h => by cases h⟩
theorem holds : Rows.TraceLimitsSaid :=
  OpenClaim.holds_of_wide 4 Tryz.f4 rfl rfl rfl rfl rfl rfl rfl ⟨rfl, rfl, rfl, rfl, rfl⟩ rfl rfl rfl rfl rfl (by kernel_rfl) Tryz.func4 facts
    (of_decide_eq_true (by kernel_rfl)) (by unfold Func.isWrapper; first | (rw [if_pos (by decide +kernel)]; kernel_rfl) | (rw [if_neg (by decide +kernel)]; exact ⟨rfl, rfl⟩))
    (fun os started H enc _ => lifted os started H enc)
end Go.Proofs.YtboekhenldifhaaGreat
