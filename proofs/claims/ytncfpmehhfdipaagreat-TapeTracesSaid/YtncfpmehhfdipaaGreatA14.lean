/- Runs of the traces and of the tapes, step by step, wherever the parts of a run lie: two are set. -/
import Derived.Test.YtncfpmehhfdipaaGreatA08
import Derived.Test.YtncfpmehhfdipaaGreatA13
set_option linter.unusedSimpArgs false
set_option linter.unusedVariables false
set_option linter.unnecessarySimpa false
namespace Go.Proofs.YtncfpmehhfdipaaGreat
open Go.IntWalk
attribute [local irreducible] au
set_option maxHeartbeats 16000000
set_option maxRecDepth 100000
theorem a86 (F:Fix) (hcs : ∀ c∈F.cs,c.Ok) (x:X) (p:PSt) (shq0:Shp) (hst:x.st.length=F.cs.length) (l:List D) (i:Nat) (hi:i < l.length) (hl:l.length < 1000) (o u:Nat) (f g:Fo) (ho:o < F.cs.length) (hu:u < F.cs.length) (hf:cU F.cs.length f) (hg:cU F.cs.length g) (hget:l[i]?=some (cmD 1 0 0 .z .z [] [] [f.d,g.d] [oD o,oD u])) {K:List Fr} {Q:Out->Env->aa->Prop} (h:ah VP shq0.kk [0,21,22,23] ag [.ptr 0 0 0 0,.d (.slice l),.d (.int .i64 (l.length:Nat)),.d (.int .i64 (i+1:Nat))] (stq F { x with st:=(x.st.set o (clA F.cs o (f.ev x.st))).set u (clA F.cs u (g.ev x.st)) } p shq0) K Q):ah VP shq0.kk [0,21,22,23] ag [.ptr 0 0 0 0,.d (.slice l),.d (.int .i64 (l.length:Nat)),.d (.int .i64 i)] (stq F x p shq0) K Q:=by
 have hwi:=ac i (by omega)
 have ht:decide ((i:Int) < ((l.length:Nat):Int))=true:=decide_eq_true (by omega)
 have hE1:=aE F.cs.length x.st hst f hf.1 (by have:=hf.2.1;omega) (by have:=hf.2.2;omega)
 have hE2:=aE F.cs.length x.st hst g hg.1 (by have:=hg.2.1;omega) (by have:=hg.2.2;omega)
 obtain ⟨c,hc,hcl⟩:=gS hcs ho
 have hcl:=hcl (f.ev x.st)
 obtain ⟨c',hc',hcl'⟩:=gS hcs hu
 have hcl':=hcl' (g.ev x.st)
 cases shq0
 all_goals
  unfold ah
  refine Z3r ?_
  refine lhX rfl rfl rfl rfl ?_
  (refine Z3r ?_;(repeat first | (refine fw (bR hE1 (aK rfl (by simp) (bM _)) rfl rfl (o0 ⟨rfl,rfl⟩)) ?_;refine Z3r ?_)))
  refine lhX rfl rfl rfl rfl ?_
  (refine Z3r ?_;(repeat first | (refine fw (bR hE2 (aK rfl (by simp) (bM _)) rfl rfl (o0 ⟨rfl,rfl⟩)) ?_;refine Z3r ?_)))
  refine lhX rfl rfl rfl rfl ?_
  refine Z3r ?_
  refine lhX rfl rfl rfl rfl ?_
  (refine Z3r ?_;(repeat first | (refine fw (oim rfl rfl rfl rfl rfl (by rw [hst];first | exact ho | exact hu) (by rw [av,List.length_map,Nat.zero_add];first | exact Nat.le_refl _ | (rw [List.length_set];exact Nat.le_refl _)) (o0 ⟨rfl,rfl⟩)) ?_;refine Z3r ?_) | (refine fw (osD rfl (Nat.zero_add _) rfl rfl rfl (by rw [List.length_map];(try rw [List.length_set]);rw [hst];first | exact ho | exact hu) (dV _) rfl rfl (dU _ _ _) rfl (o0 ⟨rfl,rfl⟩)) ?_;refine Z3r ?_)))
  refine lhX rfl rfl rfl rfl ?_
  (refine Z3r ?_;(repeat first | (refine fw (oim rfl rfl rfl rfl rfl (by rw [hst];first | exact ho | exact hu) (by rw [av,List.length_map,Nat.zero_add];first | exact Nat.le_refl _ | (rw [List.length_set];exact Nat.le_refl _)) (o0 ⟨rfl,rfl⟩)) ?_;refine Z3r ?_) | (refine fw (osD rfl (Nat.zero_add _) rfl rfl rfl (by rw [List.length_map];(try rw [List.length_set]);rw [hst];first | exact ho | exact hu) (dV _) rfl rfl (dU _ _ _) rfl (o0 ⟨rfl,rfl⟩)) ?_;refine Z3r ?_)))
  refine lhX rfl rfl rfl rfl ?_
  refine Z3r ?_
  rw [hwi]
  refine hdX rfl rfl rfl rfl ?_
  simp only [stq,Shp.kk,List.length_set] at h
  exact h
end Go.Proofs.YtncfpmehhfdipaaGreat
