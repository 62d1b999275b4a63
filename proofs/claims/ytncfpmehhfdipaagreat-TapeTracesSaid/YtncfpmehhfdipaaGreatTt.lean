/- TapeTraces holds for every list: the machine answers true, and what the machine answers the program does. -/
import Derived.Test.YtncfpmehhfdipaaGreatRows
import Derived.Test.YtncfpmehhfdipaaGreatZp
import Derived.Test.YtncfpmehhfdipaaGreatTtF
import Derived.Test.YtncfpmehhfdipaaGreatA18
import Derived.Test.YtncfpmehhfdipaaGreatA06
import Derived.WalkKit
import Derived.ProofKit
set_option linter.unusedSimpArgs false
set_option linter.unusedVariables false
set_option linter.unnecessarySimpa false
namespace Go.Proofs.YtncfpmehhfdipaaGreat
open Go.ChangeShapes Go.WideShapes Go.ChangeAt Go.RowKit
theorem Tryz.own:ownKnob Tryz.prog.godebug=none:=by kernel_rfl
theorem Tryz.laidOut:laidOutB Tryz.prog=true:=by kernel_rfl
set_option maxRecDepth 100000 in
theorem a8H (os:Go.Os) (started:os.Started) (H:Type) (enc:TypeId×Value->H) :
 ReturnsInHanded {} Tryz.checked os 3 .any (Rows.tapeTracesSpec.pre6 enc Tryz.prog Tryz.f3 Rows.tapeTracesRow.domain false) (Rows.tapeTracesSpec.post enc Tryz.prog Tryz.f3 false true false false):=by
 refine returnsInHanded_of_change (C:=Tryz.checked) Tryz.own started (by kernel_rfl) Tryz.func3
  (ChangeSpec.witness6 (enc:=enc) (C:=Tryz.checked) false ⟨#[],#[.slice none 0 0],[]⟩ 8 (by kernel_rfl) (by kernel_rfl) (by kernel_rfl) (by kernel_rfl)) ?_
 intro W base args ds gss before hval0 hWd hcnd _
 have hval : ∀ (j:Nat) t v,Tryz.f3.params[j]?=some t->args[j]?=some v->Value.okWide Tryz.prog W .any base t v:=hval0
 have hWd':=hWd
 obtain ⟨p,q,hA0,hV,rfl,hfz,hnd⟩:=hWd
 have hA:DataW.TrodAll enc Tryz.prog W 0 (fun _=>true) true Tryz.f3.params.toList args.toList ds p:=hA0
 rw [Tryz.params3] at hA hval
 obtain ⟨v0,d0,rfl,rfl,h0⟩:=trodAll_one hA
 obtain ⟨rfl,rfl⟩:=trodVars_none hV
 have hlt0 : ∀ x∈p,x.block < W.heap.size:=fun x hx=>by simpa using hWd'.lt x (by simp [hx])
 have h0k:=h0
 obtain ⟨l,hl⟩:=le (fo:=fo) Tryz.underlying22 Tryz.underlying3 (by kernel_rfl) (hval 0 22 v0 rfl rfl) h0
 clear hA0 hval0
 have hR:=a8I l
 unfold Ret Evt at hR
 obtain ⟨m,hm⟩:=hR
 refine (Ig (K:=KwM W) (vargs := #[v0]) nm (g:=3) (by kernel_rfl) aZI (.cons _ _ _ _ hl .nil) (hm m (Nat.le_refl _))).mono fun e W' he => ?_
 obtain ⟨v,rfl,hb,K',hr⟩:=he
 cases hr
 refine ⟨_,rfl,[_],[],_,[],_,[],hWd',trodAll_mk1 (shut_bool Tryz.underlying4 true),trodAll_mk1 (Below.trod Tryz.laidOut (by kernel_rfl) (of_decide_eq_true (by kernel_rfl)) h0k hb hlt0),rfl,hb.frame _,fun h=>by cases h⟩
theorem holds:Rows.TapeTracesSaid :=
 OpenClaim.holds_of_wide 3 Tryz.f3 rfl rfl rfl rfl rfl rfl rfl ⟨rfl,rfl,rfl,rfl,rfl⟩ rfl rfl rfl rfl rfl (by kernel_rfl) Tryz.func3 a8S
  (of_decide_eq_true (by kernel_rfl)) (by unfold Func.isWrapper;first | (rw [if_pos (by decide +kernel)];kernel_rfl) | (rw [if_neg (by decide +kernel)];exact ⟨rfl,rfl⟩))
  (fun os started H enc _=>a8H os started H enc)
end Go.Proofs.YtncfpmehhfdipaaGreat
