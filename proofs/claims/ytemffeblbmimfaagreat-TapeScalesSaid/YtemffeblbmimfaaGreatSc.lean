/- TapeScales holds for every list and every number: the machine answers true, and what the machine answers the program does. -/
import Derived.Test.YtemffeblbmimfaaGreatRows
import Derived.Test.YtemffeblbmimfaaGreatZp
import Derived.Test.YtemffeblbmimfaaGreatScF
import Derived.Test.YtemffeblbmimfaaGreatA16
import Derived.Test.YtemffeblbmimfaaGreatA06
import Derived.WalkKit
import Derived.ProofKit
set_option linter.unusedSimpArgs false
set_option linter.unusedVariables false
set_option linter.unnecessarySimpa false
namespace Go.Proofs.YtemffeblbmimfaaGreat
open Go.ChangeShapes Go.WideShapes Go.ChangeAt Go.RowKit
theorem Tryz.own:ownKnob Tryz.prog.godebug=none:=by kernel_rfl
theorem Tryz.laidOut:laidOutB Tryz.prog=true:=by kernel_rfl
set_option maxRecDepth 100000 in
theorem py (os:Go.Os) (started:os.Started) (H:Type) (enc:TypeId×Value->H) :
 ReturnsInHanded {} Tryz.checked os 3 .any (Rows.tapeScalesSpec.pre6 enc Tryz.prog Tryz.f3 Rows.tapeScalesRow.domain false) (Rows.tapeScalesSpec.post enc Tryz.prog Tryz.f3 false true false false):=by
 refine returnsInHanded_of_change (C:=Tryz.checked) Tryz.own started (by kernel_rfl) Tryz.func3
  (ChangeSpec.witness6 (enc:=enc) (C:=Tryz.checked) false ⟨#[],#[.slice none 0 0,.int .u8 0],[]⟩ 8 (by kernel_rfl) (by kernel_rfl) (by kernel_rfl) (by kernel_rfl)) ?_
 intro W base args ds gss before hval0 hWd hcnd _
 have hval : ∀ (j:Nat) t v,Tryz.f3.params[j]?=some t->args[j]?=some v->Value.okWide Tryz.prog W .any base t v:=hval0
 have hWd':=hWd
 obtain ⟨p,q,hA0,hV,rfl,hfz,hnd⟩:=hWd
 have hA:DataW.TrodAll enc Tryz.prog W 0 (fun _=>true) true Tryz.f3.params.toList args.toList ds p:=hA0
 rw [Tryz.params3] at hA hval
 obtain ⟨v0,v1,d0,d1,p0,p1,rfl,rfl,rfl,h0,h1⟩:=trodAll_two hA
 obtain ⟨rfl,rfl⟩:=trodVars_none hV
 have hlt0 : ∀ x∈p0,x.block < W.heap.size:=fun x hx=>by simpa using hWd'.lt x (by simp [hx])
 have h0k:=h0
 have h1k:=h1
 obtain ⟨l,hl⟩:=le (fo:=fo) Tryz.underlying22 Tryz.underlying3 (by kernel_rfl) (hval 0 22 v0 rfl rfl) h0
 obtain ⟨n1,rfl,rfl,rfl,w1⟩:=open_int Tryz.underlying5 (hval 1 5 v1 rfl rfl) h1
 clear hA0 hval0
 have hn1:0<=n1/\n1 < 256:=by
  simp only [Lit.wf,Bool.and_eq_true,decide_eq_true_eq] at w1
  have e1:IntKind.u8.min=0:=rfl
  have e2:IntKind.u8.max=255:=rfl
  omega
 obtain ⟨k,rfl⟩:=Int.eq_ofNat_of_zero_le hn1.1
 have hR:=amD l k (by omega)
 unfold Ret Evt at hR
 obtain ⟨m,hm⟩:=hR
 refine (Ig (K:=KwM W) (vargs := #[v0,.int .u8 k]) nm (g:=3) (by kernel_rfl) aZI (.cons _ _ _ _ hl (.cons _ _ _ _ (.int _ _) .nil)) (hm m (Nat.le_refl _))).mono fun e W' he => ?_
 obtain ⟨v,rfl,hb,K',hr⟩:=he
 cases hr
 refine ⟨_,rfl,[_,_],[],_,[],_,[],hWd',trodAll_mk1 (shut_bool Tryz.underlying4 true),trodAll_mk2 (Below.trod Tryz.laidOut (by kernel_rfl) (of_decide_eq_true (by kernel_rfl)) h0k hb hlt0) (Below.trod Tryz.laidOut (by kernel_rfl) (of_decide_eq_true (by kernel_rfl)) h1k hb (by simp)),rfl,hb.frame _,fun h=>by cases h⟩
theorem holds:Rows.TapeScalesSaid :=
 OpenClaim.holds_of_wide 3 Tryz.f3 rfl rfl rfl rfl rfl rfl rfl ⟨rfl,rfl,rfl,rfl,rfl⟩ rfl rfl rfl rfl rfl (by kernel_rfl) Tryz.func3 rv
  (of_decide_eq_true (by kernel_rfl)) (by unfold Func.isWrapper;first | (rw [if_pos (by decide +kernel)];kernel_rfl) | (rw [if_neg (by decide +kernel)];exact ⟨rfl,rfl⟩))
  (fun os started H enc _=>py os started H enc)
end Go.Proofs.YtemffeblbmimfaaGreat
