/- TapeRuns holds for every list: the machine answers true, and what the machine answers the program does. -/
import Derived.Test.YtemffeblbmimfaaGreatRows
import Derived.Test.YtemffeblbmimfaaGreatZp
import Derived.Test.YtemffeblbmimfaaGreatRnF
import Derived.Test.YtemffeblbmimfaaGreatA16
import Derived.Test.YtemffeblbmimfaaGreatA06
import Derived.WalkKit
import Derived.ProofKit
set_option linter.unusedSimpArgs false
set_option linter.unusedVariables false
set_option linter.unnecessarySimpa false
namespace Go.Proofs.YtemffeblbmimfaaGreat
open Go.ChangeShapes Go.WideShapes Go.ChangeAt Go.RowKit
theorem Tryz.own:ownKnob Tryz.prog.godebug=none:=by kernel_rfl
theorem Tryz.laidOut:laidOutB Tryz.prog=true:=by kernel_rfl
set_option maxRecDepth 100000 in
theorem lifted (os:Go.Os) (started:os.Started) (H:Type) (enc:TypeId×Value->H) :
 ReturnsInHanded {} Tryz.checked os 4 .any (Rows.tapeRunsSpec.pre6 enc Tryz.prog Tryz.f4 Rows.tapeRunsRow.domain false) (Rows.tapeRunsSpec.post enc Tryz.prog Tryz.f4 false true false false):=by
 refine returnsInHanded_of_change (C:=Tryz.checked) Tryz.own started (by kernel_rfl) Tryz.func4
  (ChangeSpec.witness6 (enc:=enc) (C:=Tryz.checked) false ⟨#[],#[.slice none 0 0],[]⟩ 8 (by kernel_rfl) (by kernel_rfl) (by kernel_rfl) (by kernel_rfl)) ?_
 intro W base args ds gss before hval0 hWd hcnd _
 have hval : ∀ (j:Nat) t v,Tryz.f4.params[j]?=some t->args[j]?=some v->Value.okWide Tryz.prog W .any base t v:=hval0
 have hWd':=hWd
 obtain ⟨p,q,hA0,hV,rfl,hfz,hnd⟩:=hWd
 have hA:DataW.TrodAll enc Tryz.prog W 0 (fun _=>true) true Tryz.f4.params.toList args.toList ds p:=hA0
 rw [Tryz.params4] at hA hval
 obtain ⟨v0,d0,rfl,rfl,h0⟩:=trodAll_one hA
 obtain ⟨rfl,rfl⟩:=trodVars_none hV
 have hlt0 : ∀ x∈p,x.block < W.heap.size:=fun x hx=>by simpa using hWd'.lt x (by simp [hx])
 have h0k:=h0
 obtain ⟨l,hl⟩:=le (fo:=fo) Tryz.underlying22 Tryz.underlying3 (by kernel_rfl) (hval 0 22 v0 rfl rfl) h0
 clear hA0 hval0
 have hR:=a4G l
 unfold Ret Evt at hR
 obtain ⟨m,hm⟩:=hR
 refine (Ig (K:=KwM W) (vargs := #[v0]) nm (g:=4) (by kernel_rfl) aZI (.cons _ _ _ _ hl .nil) (hm m (Nat.le_refl _))).mono fun e W' he => ?_
 obtain ⟨v,rfl,hb,K',hr⟩:=he
 cases hr
 refine ⟨_,rfl,[_],[],_,[],_,[],hWd',trodAll_mk1 (shut_bool Tryz.underlying4 true),trodAll_mk1 (Below.trod Tryz.laidOut (by kernel_rfl) (of_decide_eq_true (by kernel_rfl)) h0k hb hlt0),rfl,hb.frame _,fun h=>by cases h⟩
theorem holds:Rows.TapeRunsSaid :=
 OpenClaim.holds_of_wide 4 Tryz.f4 rfl rfl rfl rfl rfl rfl rfl ⟨rfl,rfl,rfl,rfl,rfl⟩ rfl rfl rfl rfl rfl (by kernel_rfl) Tryz.func4 facts
  (of_decide_eq_true (by kernel_rfl)) (by unfold Func.isWrapper;first | (rw [if_pos (by decide +kernel)];kernel_rfl) | (rw [if_neg (by decide +kernel)];exact ⟨rfl,rfl⟩))
  (fun os started H enc _=>lifted os started H enc)
end Go.Proofs.YtemffeblbmimfaaGreat
