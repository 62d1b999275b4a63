/- Modules in general: runs, step by step. -/
import Derived.Test.YtemffeblbmimfaaGreatA08
import Derived.Test.YtemffeblbmimfaaGreatA13
import Derived.Test.YtemffeblbmimfaaGreatA14
set_option linter.unusedSimpArgs false
set_option linter.unusedVariables false
set_option linter.unnecessarySimpa false
namespace Go.Proofs.YtemffeblbmimfaaGreat
open Go.IntWalk
attribute [local irreducible] au
set_option maxHeartbeats 8000000
set_option maxRecDepth 100000
theorem I5 (F:Fix) (hcs : ∀ c∈F.cs,c.Ok) (x:X) (hst:x.st.length=F.cs.length) (l:List D) (i:Nat) (hi:i < l.length) (hl:l.length < 1000) (c0:Nat×Nat) (ch:List (Nat×Nat)) (hch:ch.length<=10) (v s:Nat) (lo:Int) (w:List D) (hv:v < F.cs.length) (hw:w∈W0) (h1 : -1<=lo) (h2:lo<=1) (hb:F.b<=1000) (hall : ∀ t∈F.ts,t < F.b) (hlen:x.tk < F.ts.length) (htk:x.tk<=100) (hm0:x.m≠0) (hmf:fit 65536 x.m) (hg:l[i]?=some (cmD 2 v s .z (.tab lo w) [] [] [] [])) {K:List Fr} {Q:Out->Env->aa->Prop} (h:ah VP 4 [0,21,22,23] ag [.ptr 0 0 0 0,.d (.slice l),.d (.int .i64 (l.length:Nat)),.d (.int .i64 (i+1:Nat))] (sC F { x with m:=x.m*val2 (w.getD (pk w (F.q x.tk)) p0),st:=x.st.set v (clA F.cs v (lo+(pk w (F.q x.tk):Nat))),tk:=x.tk+1 } c0 (ch++[(s,pk w (F.q x.tk))])) K Q):ah VP 4 [0,21,22,23] ag [.ptr 0 0 0 0,.d (.slice l),.d (.int .i64 (l.length:Nat)),.d (.int .i64 i)] (sC F x c0 ch) K Q:=by
 have hwi:=ac i (by omega)
 have ht:decide ((i:Int) < ((l.length:Nat):Int))=true:=decide_eq_true (by omega)
 have ho:=hv
 have hu:=hv
 obtain ⟨hp,p,hgp,hwn⟩:=hH v s lo F.b F.ts x.tk hb hall (by omega) hlen w hw
 change Ret VP (.fn 441) _ _ (.d (.tuple [.int .i64 (pk w (F.q x.tk):Nat),.int .i64 0])) _ at hp
 change w[pk w (F.q x.tk)]?=some p at hgp
 generalize pk w (F.q x.tk)=n at hp hgp h
 have hn3:n < w.length:=(List.getElem?_eq_some_iff.1 hgp).1
 have hw3:=se w hw
 have ep:w.getD n p0=p:=by rw [List.getD_eq_getElem?_getD,hgp];rfl
 rw [ep] at h
 have ⟨e1,r0',hf8⟩:=hwn.val
 have ⟨_,_,_,_,hno⟩:=hwn
 generalize val2 p=r at h e1 r0' hf8
 subst e1
 have hmul:=aaY x.m r hmf ⟨by have:=hf8.1;omega,by have:=hf8.2;omega⟩ hm0 r0'
 have hwk:IntKind.i64.wrap (lo+(n:Int))=lo+(n:Int):=by rw [i64_in]<;>omega
 rw [<- hwk] at h
 obtain ⟨c,hc,hcl⟩:=gS hcs hv
 have hcl:=hcl (IntKind.i64.wrap (lo+(n:Int)))
 have hroom:au (ch.length+1+1) 16=true:=by rw [au,Bool.and_eq_true,decide_eq_true_eq,decide_eq_true_eq];omega
 have q1:(c0::(ch++[(s,n)])).map chD=(c0::ch).map chD++[chD (s,n)]:=by simp
 have q2:(ch++[(s,n)]).length=ch.length+1:=by simp
 unfold ah
 (refine Z3r ?_;(repeat first | (refine fw (oVX rfl hp rfl rfl rfl rfl rfl rfl rfl rfl (o0 ⟨rfl,rfl⟩)) ?_;refine Z3r ?_) | (refine fw (oaD (chD (s,n)) rfl rfl rfl (by simp) rfl hroom rfl (o0 ⟨rfl,rfl⟩)) ?_;refine Z3r ?_) | (refine fw (oim rfl rfl rfl rfl rfl (by rw [hst];first | exact ho | exact hu) (by rw [av,List.length_map,Nat.zero_add];first | exact Nat.le_refl _ | (rw [List.length_set];exact Nat.le_refl _)) (o0 ⟨rfl,rfl⟩)) ?_;refine Z3r ?_) | (refine fw (osD rfl (Nat.zero_add _) rfl rfl rfl (by rw [List.length_map];(try rw [List.length_set]);rw [hst];first | exact ho | exact hu) (dV _) rfl rfl (dU _ _ _) rfl (o0 ⟨rfl,rfl⟩)) ?_;refine Z3r ?_)))
 rw [hwi]
 refine hdX rfl rfl rfl rfl ?_
 simp only [sC,chB,q1,q2,List.length_set] at h
 exact h
theorem H9 (F:Fix) (hcs : ∀ c∈F.cs,c.Ok) (x:X) (hst:x.st.length=F.cs.length) (l:List D) (i:Nat) (hi:i < l.length) (hl:l.length < 1000) (o:Nat) (f:Fo) (ho:o < F.cs.length) (hf:cU F.cs.length f) (hg:l[i]?=some (cmD 1 0 0 .z .z [] [] [f.d] [oD o])) {K:List Fr} {Q:Out->Env->aa->Prop} (h:ah VP 3 [0,21,22,23] ag [.ptr 0 0 0 0,.d (.slice l),.d (.int .i64 (l.length:Nat)),.d (.int .i64 (i+1:Nat))] (sN F { x with st:=x.st.set o (clA F.cs o (f.ev x.st)) }) K Q):ah VP 3 [0,21,22,23] ag [.ptr 0 0 0 0,.d (.slice l),.d (.int .i64 (l.length:Nat)),.d (.int .i64 i)] (sN F x) K Q:=by
 have hwi:=ac i (by omega)
 have ht:decide ((i:Int) < ((l.length:Nat):Int))=true:=decide_eq_true (by omega)
 have hE:=aE F.cs.length x.st hst f hf.1 (by have:=hf.2.1;omega) (by have:=hf.2.2;omega)
 have hu:=ho
 obtain ⟨c,hc,hcl⟩:=gS hcs ho
 have hcl:=hcl (f.ev x.st)
 unfold ah
 refine Z3r ?_
 refine lhX rfl rfl rfl rfl ?_
 (refine Z3r ?_;(repeat first | (refine fw (bR hE (aK rfl (by simp) (bM _)) rfl rfl (o0 ⟨rfl,rfl⟩)) ?_;refine Z3r ?_)))
 refine lhX rfl rfl rfl rfl ?_
 refine Z3r ?_
 refine lhX rfl rfl rfl rfl ?_
 (refine Z3r ?_;(repeat first | (refine fw (oim rfl rfl rfl rfl rfl (by rw [hst];first | exact ho | exact hu) (by rw [av,List.length_map,Nat.zero_add];first | exact Nat.le_refl _ | (rw [List.length_set];exact Nat.le_refl _)) (o0 ⟨rfl,rfl⟩)) ?_;refine Z3r ?_) | (refine fw (osD rfl (Nat.zero_add _) rfl rfl rfl (by rw [List.length_map];(try rw [List.length_set]);rw [hst];first | exact ho | exact hu) (dV _) rfl rfl (dU _ _ _) rfl (o0 ⟨rfl,rfl⟩)) ?_;refine Z3r ?_)))
 refine lhX rfl rfl rfl rfl ?_
 refine Z3r ?_
 rw [hwi]
 refine hdX rfl rfl rfl rfl ?_
 simp only [sN,List.length_set] at h
 exact h
theorem H6 (F:Fix) (hcs : ∀ c∈F.cs,c.Ok) (x:X) (hst:x.st.length=F.cs.length) (l:List D) (i:Nat) (hi:i < l.length) (hl:l.length < 1000) (o u:Nat) (f g:Fo) (ho:o < F.cs.length) (hu:u < F.cs.length) (hf:cU F.cs.length f) (hg:cU F.cs.length g) (hget:l[i]?=some (cmD 1 0 0 .z .z [] [] [f.d,g.d] [oD o,oD u])) {K:List Fr} {Q:Out->Env->aa->Prop} (h:ah VP 3 [0,21,22,23] ag [.ptr 0 0 0 0,.d (.slice l),.d (.int .i64 (l.length:Nat)),.d (.int .i64 (i+1:Nat))] (sN F { x with st:=(x.st.set o (clA F.cs o (f.ev x.st))).set u (clA F.cs u (g.ev x.st)) }) K Q):ah VP 3 [0,21,22,23] ag [.ptr 0 0 0 0,.d (.slice l),.d (.int .i64 (l.length:Nat)),.d (.int .i64 i)] (sN F x) K Q:=by
 have hwi:=ac i (by omega)
 have ht:decide ((i:Int) < ((l.length:Nat):Int))=true:=decide_eq_true (by omega)
 have hE1:=aE F.cs.length x.st hst f hf.1 (by have:=hf.2.1;omega) (by have:=hf.2.2;omega)
 have hE2:=aE F.cs.length x.st hst g hg.1 (by have:=hg.2.1;omega) (by have:=hg.2.2;omega)
 obtain ⟨c,hc,hcl⟩:=gS hcs ho
 have hcl:=hcl (f.ev x.st)
 obtain ⟨c',hc',hcl'⟩:=gS hcs hu
 have hcl':=hcl' (g.ev x.st)
 unfold ah
 refine Z3r ?_
 refine lhX rfl rfl rfl rfl ?_
 (refine Z3r ?_;(repeat first | (refine fw (bR hE1 (aK rfl (by simp) (bM _)) rfl rfl (o0 ⟨rfl,rfl⟩)) ?_;refine Z3r ?_)))
 refine lhX rfl rfl rfl rfl ?_
 (refine Z3r ?_;(repeat first | (refine fw (bR hE2 (aK rfl (by simp) (bM _)) rfl rfl (o0 ⟨rfl,rfl⟩)) ?_;refine Z3r ?_)))
 refine lhX rfl rfl rfl rfl ?_
 refine Z3r ?_
 refine lhX rfl rfl rfl rfl ?_
 (refine Z3r ?_;(repeat first | (refine fw (oim rfl rfl rfl rfl rfl (by rw [hst];first | exact ho | exact hu) (by rw [av,List.length_map,Nat.zero_add];first | exact Nat.le_refl _ | (rw [List.length_set];exact Nat.le_refl _)) (o0 ⟨rfl,rfl⟩)) ?_;refine Z3r ?_) | (refine fw (osD rfl (Nat.zero_add _) rfl rfl rfl (by rw [List.length_map];(try rw [List.length_set]);rw [hst];first | exact ho | exact hu) (dV _) rfl rfl (dU _ _ _) rfl (o0 ⟨rfl,rfl⟩)) ?_;refine Z3r ?_)))
 refine lhX rfl rfl rfl rfl ?_
 (refine Z3r ?_;(repeat first | (refine fw (oim rfl rfl rfl rfl rfl (by rw [hst];first | exact ho | exact hu) (by rw [av,List.length_map,Nat.zero_add];first | exact Nat.le_refl _ | (rw [List.length_set];exact Nat.le_refl _)) (o0 ⟨rfl,rfl⟩)) ?_;refine Z3r ?_) | (refine fw (osD rfl (Nat.zero_add _) rfl rfl rfl (by rw [List.length_map];(try rw [List.length_set]);rw [hst];first | exact ho | exact hu) (dV _) rfl rfl (dU _ _ _) rfl (o0 ⟨rfl,rfl⟩)) ?_;refine Z3r ?_)))
 refine lhX rfl rfl rfl rfl ?_
 refine Z3r ?_
 rw [hwi]
 refine hdX rfl rfl rfl rfl ?_
 simp only [sN,List.length_set] at h
 exact h
theorem Ip (F:Fix) (hcs : ∀ c∈F.cs,c.Ok) (x:X) (hst:x.st.length=F.cs.length) (l:List D) (i:Nat) (hi:i < l.length) (hl:l.length < 1000) (f:Fo) (hf:cU F.cs.length f) (hg:l[i]?=some (cmD 4 0 0 f .z [] [] [] [])) (h0:f.ev x.st≠0) {K:List Fr} {Q:Out->Env->aa->Prop} (h:ah VP 3 [0,21,22,23] ag [.ptr 0 0 0 0,.d (.slice l),.d (.int .i64 (l.length:Nat)),.d (.int .i64 (i+1:Nat))] (sN F x) K Q):ah VP 3 [0,21,22,23] ag [.ptr 0 0 0 0,.d (.slice l),.d (.int .i64 (l.length:Nat)),.d (.int .i64 i)] (sN F x) K Q:=by
 have hwi:=ac i (by omega)
 have ht:decide ((i:Int) < ((l.length:Nat):Int))=true:=decide_eq_true (by omega)
 have hE:=aE F.cs.length x.st hst f hf.1 (by have:=hf.2.1;omega) (by have:=hf.2.2;omega)
 have t0:(f.ev x.st==0)=false:=by simpa using h0
 unfold ah
 (refine Z3r ?_;(repeat first | (refine fw (bR hE (aK rfl (by simp) (bM _)) rfl rfl (o0 ⟨rfl,rfl⟩)) ?_;refine Z3r ?_)))
 rw [hwi]
 refine hdX rfl rfl rfl rfl ?_
 exact h
theorem Is (F:Fix) (hcs : ∀ c∈F.cs,c.Ok) (x:X) (hst:x.st.length=F.cs.length) (l:List D) (i:Nat) (hi:i < l.length) (hl:l.length < 1000) (f:Fo) (hf:cU F.cs.length f) (hg:l[i]?=some (cmD 4 0 0 f .z [] [] [] [])) (h0:f.ev x.st=0) {K:List Fr} : ah VP 3 [0,21,22,23] ag [.ptr 0 0 0 0,.d (.slice l),.d (.int .i64 (l.length:Nat)),.d (.int .i64 i)] (sN F x) K (fun o e s=>fin f67.keep 3 f67.res o e s=some (.d (.bool false),(sN F { x with en:=2 }))):=by
 have hwi:=ac i (by omega)
 have ht:decide ((i:Int) < ((l.length:Nat):Int))=true:=decide_eq_true (by omega)
 have hE:=aE F.cs.length x.st hst f hf.1 (by have:=hf.2.1;omega) (by have:=hf.2.2;omega)
 have t0:(f.ev x.st==0)=true:=by simpa using h0
 unfold ah
 (refine Z3r ?_;(repeat first | (refine fw (bR hE (aK rfl (by simp) (bM _)) rfl rfl (o0 ⟨rfl,rfl⟩)) ?_;refine Z3r ?_)))
 exact kG (xs:=[.d (.bool false)]) rfl rfl rfl rfl
theorem abM (F:Fix) (hcs : ∀ c∈F.cs,c.Ok) (x:X) (hst:x.st.length=F.cs.length) (l:List D) (i:Nat) (hi:i < l.length) (hl:l.length < 1000) (hg:l[i]?=some (cmD 5 0 0 .z .z [] [] [] [])) {K:List Fr} : ah VP 3 [0,21,22,23] ag [.ptr 0 0 0 0,.d (.slice l),.d (.int .i64 (l.length:Nat)),.d (.int .i64 i)] (sN F x) K (fun o e s=>fin f67.keep 3 f67.res o e s=some (.d (.bool false),(sN F { x with en:=3 }))):=by
 have hwi:=ac i (by omega)
 have ht:decide ((i:Int) < ((l.length:Nat):Int))=true:=decide_eq_true (by omega)
 unfold ah
 refine Z3r ?_
 exact kG (xs:=[.d (.bool false)]) rfl rfl rfl rfl
theorem Ib (F:Fix) (hcs : ∀ c∈F.cs,c.Ok) (x:X) (hst:x.st.length=F.cs.length) (l:List D) (i:Nat) (hi:i < l.length) (hl:l.length < 1000) (c0:Nat×Nat) (ch:List (Nat×Nat)) (o:Nat) (f:Fo) (ho:o < F.cs.length) (hf:cU F.cs.length f) (hg:l[i]?=some (cmD 1 0 0 .z .z [] [] [f.d] [oD o])) {K:List Fr} {Q:Out->Env->aa->Prop} (h:ah VP 3 [0,21,22,23] ag [.ptr 0 0 0 0,.d (.slice l),.d (.int .i64 (l.length:Nat)),.d (.int .i64 (i+1:Nat))] (sA F { x with st:=x.st.set o (clA F.cs o (f.ev x.st)) } c0 ch) K Q):ah VP 3 [0,21,22,23] ag [.ptr 0 0 0 0,.d (.slice l),.d (.int .i64 (l.length:Nat)),.d (.int .i64 i)] (sA F x c0 ch) K Q:=by
 have hwi:=ac i (by omega)
 have ht:decide ((i:Int) < ((l.length:Nat):Int))=true:=decide_eq_true (by omega)
 have hE:=aE F.cs.length x.st hst f hf.1 (by have:=hf.2.1;omega) (by have:=hf.2.2;omega)
 have hu:=ho
 obtain ⟨c,hc,hcl⟩:=gS hcs ho
 have hcl:=hcl (f.ev x.st)
 unfold ah
 refine Z3r ?_
 refine lhX rfl rfl rfl rfl ?_
 (refine Z3r ?_;(repeat first | (refine fw (bR hE (aK rfl (by simp) (bM _)) rfl rfl (o0 ⟨rfl,rfl⟩)) ?_;refine Z3r ?_)))
 refine lhX rfl rfl rfl rfl ?_
 refine Z3r ?_
 refine lhX rfl rfl rfl rfl ?_
 (refine Z3r ?_;(repeat first | (refine fw (oim rfl rfl rfl rfl rfl (by rw [hst];first | exact ho | exact hu) (by rw [av,List.length_map,Nat.zero_add];first | exact Nat.le_refl _ | (rw [List.length_set];exact Nat.le_refl _)) (o0 ⟨rfl,rfl⟩)) ?_;refine Z3r ?_) | (refine fw (osD rfl (Nat.zero_add _) rfl rfl rfl (by rw [List.length_map];(try rw [List.length_set]);rw [hst];first | exact ho | exact hu) (dV _) rfl rfl (dU _ _ _) rfl (o0 ⟨rfl,rfl⟩)) ?_;refine Z3r ?_)))
 refine lhX rfl rfl rfl rfl ?_
 refine Z3r ?_
 rw [hwi]
 refine hdX rfl rfl rfl rfl ?_
 simp only [sA,List.length_set] at h
 exact h
theorem H8 (F:Fix) (hcs : ∀ c∈F.cs,c.Ok) (x:X) (hst:x.st.length=F.cs.length) (l:List D) (i:Nat) (hi:i < l.length) (hl:l.length < 1000) (c0:Nat×Nat) (ch:List (Nat×Nat)) (o u:Nat) (f g:Fo) (ho:o < F.cs.length) (hu:u < F.cs.length) (hf:cU F.cs.length f) (hg:cU F.cs.length g) (hget:l[i]?=some (cmD 1 0 0 .z .z [] [] [f.d,g.d] [oD o,oD u])) {K:List Fr} {Q:Out->Env->aa->Prop} (h:ah VP 3 [0,21,22,23] ag [.ptr 0 0 0 0,.d (.slice l),.d (.int .i64 (l.length:Nat)),.d (.int .i64 (i+1:Nat))] (sA F { x with st:=(x.st.set o (clA F.cs o (f.ev x.st))).set u (clA F.cs u (g.ev x.st)) } c0 ch) K Q):ah VP 3 [0,21,22,23] ag [.ptr 0 0 0 0,.d (.slice l),.d (.int .i64 (l.length:Nat)),.d (.int .i64 i)] (sA F x c0 ch) K Q:=by
 have hwi:=ac i (by omega)
 have ht:decide ((i:Int) < ((l.length:Nat):Int))=true:=decide_eq_true (by omega)
 have hE1:=aE F.cs.length x.st hst f hf.1 (by have:=hf.2.1;omega) (by have:=hf.2.2;omega)
 have hE2:=aE F.cs.length x.st hst g hg.1 (by have:=hg.2.1;omega) (by have:=hg.2.2;omega)
 obtain ⟨c,hc,hcl⟩:=gS hcs ho
 have hcl:=hcl (f.ev x.st)
 obtain ⟨c',hc',hcl'⟩:=gS hcs hu
 have hcl':=hcl' (g.ev x.st)
 unfold ah
 refine Z3r ?_
 refine lhX rfl rfl rfl rfl ?_
 (refine Z3r ?_;(repeat first | (refine fw (bR hE1 (aK rfl (by simp) (bM _)) rfl rfl (o0 ⟨rfl,rfl⟩)) ?_;refine Z3r ?_)))
 refine lhX rfl rfl rfl rfl ?_
 (refine Z3r ?_;(repeat first | (refine fw (bR hE2 (aK rfl (by simp) (bM _)) rfl rfl (o0 ⟨rfl,rfl⟩)) ?_;refine Z3r ?_)))
 refine lhX rfl rfl rfl rfl ?_
 refine Z3r ?_
 refine lhX rfl rfl rfl rfl ?_
 (refine Z3r ?_;(repeat first | (refine fw (oim rfl rfl rfl rfl rfl (by rw [hst];first | exact ho | exact hu) (by rw [av,List.length_map,Nat.zero_add];first | exact Nat.le_refl _ | (rw [List.length_set];exact Nat.le_refl _)) (o0 ⟨rfl,rfl⟩)) ?_;refine Z3r ?_) | (refine fw (osD rfl (Nat.zero_add _) rfl rfl rfl (by rw [List.length_map];(try rw [List.length_set]);rw [hst];first | exact ho | exact hu) (dV _) rfl rfl (dU _ _ _) rfl (o0 ⟨rfl,rfl⟩)) ?_;refine Z3r ?_)))
 refine lhX rfl rfl rfl rfl ?_
 (refine Z3r ?_;(repeat first | (refine fw (oim rfl rfl rfl rfl rfl (by rw [hst];first | exact ho | exact hu) (by rw [av,List.length_map,Nat.zero_add];first | exact Nat.le_refl _ | (rw [List.length_set];exact Nat.le_refl _)) (o0 ⟨rfl,rfl⟩)) ?_;refine Z3r ?_) | (refine fw (osD rfl (Nat.zero_add _) rfl rfl rfl (by rw [List.length_map];(try rw [List.length_set]);rw [hst];first | exact ho | exact hu) (dV _) rfl rfl (dU _ _ _) rfl (o0 ⟨rfl,rfl⟩)) ?_;refine Z3r ?_)))
 refine lhX rfl rfl rfl rfl ?_
 refine Z3r ?_
 rw [hwi]
 refine hdX rfl rfl rfl rfl ?_
 simp only [sA,List.length_set] at h
 exact h
theorem Ir (F:Fix) (hcs : ∀ c∈F.cs,c.Ok) (x:X) (hst:x.st.length=F.cs.length) (l:List D) (i:Nat) (hi:i < l.length) (hl:l.length < 1000) (c0:Nat×Nat) (ch:List (Nat×Nat)) (f:Fo) (hf:cU F.cs.length f) (hg:l[i]?=some (cmD 4 0 0 f .z [] [] [] [])) (h0:f.ev x.st≠0) {K:List Fr} {Q:Out->Env->aa->Prop} (h:ah VP 3 [0,21,22,23] ag [.ptr 0 0 0 0,.d (.slice l),.d (.int .i64 (l.length:Nat)),.d (.int .i64 (i+1:Nat))] (sA F x c0 ch) K Q):ah VP 3 [0,21,22,23] ag [.ptr 0 0 0 0,.d (.slice l),.d (.int .i64 (l.length:Nat)),.d (.int .i64 i)] (sA F x c0 ch) K Q:=by
 have hwi:=ac i (by omega)
 have ht:decide ((i:Int) < ((l.length:Nat):Int))=true:=decide_eq_true (by omega)
 have hE:=aE F.cs.length x.st hst f hf.1 (by have:=hf.2.1;omega) (by have:=hf.2.2;omega)
 have t0:(f.ev x.st==0)=false:=by simpa using h0
 unfold ah
 (refine Z3r ?_;(repeat first | (refine fw (bR hE (aK rfl (by simp) (bM _)) rfl rfl (o0 ⟨rfl,rfl⟩)) ?_;refine Z3r ?_)))
 rw [hwi]
 refine hdX rfl rfl rfl rfl ?_
 exact h
theorem Iu (F:Fix) (hcs : ∀ c∈F.cs,c.Ok) (x:X) (hst:x.st.length=F.cs.length) (l:List D) (i:Nat) (hi:i < l.length) (hl:l.length < 1000) (c0:Nat×Nat) (ch:List (Nat×Nat)) (f:Fo) (hf:cU F.cs.length f) (hg:l[i]?=some (cmD 4 0 0 f .z [] [] [] [])) (h0:f.ev x.st=0) {K:List Fr} : ah VP 3 [0,21,22,23] ag [.ptr 0 0 0 0,.d (.slice l),.d (.int .i64 (l.length:Nat)),.d (.int .i64 i)] (sA F x c0 ch) K (fun o e s=>fin f67.keep 3 f67.res o e s=some (.d (.bool false),(sA F { x with en:=2 } c0 ch))):=by
 have hwi:=ac i (by omega)
 have ht:decide ((i:Int) < ((l.length:Nat):Int))=true:=decide_eq_true (by omega)
 have hE:=aE F.cs.length x.st hst f hf.1 (by have:=hf.2.1;omega) (by have:=hf.2.2;omega)
 have t0:(f.ev x.st==0)=true:=by simpa using h0
 unfold ah
 (refine Z3r ?_;(repeat first | (refine fw (bR hE (aK rfl (by simp) (bM _)) rfl rfl (o0 ⟨rfl,rfl⟩)) ?_;refine Z3r ?_)))
 exact kG (xs:=[.d (.bool false)]) rfl rfl rfl rfl
theorem abO (F:Fix) (hcs : ∀ c∈F.cs,c.Ok) (x:X) (hst:x.st.length=F.cs.length) (l:List D) (i:Nat) (hi:i < l.length) (hl:l.length < 1000) (c0:Nat×Nat) (ch:List (Nat×Nat)) (hg:l[i]?=some (cmD 5 0 0 .z .z [] [] [] [])) {K:List Fr} : ah VP 3 [0,21,22,23] ag [.ptr 0 0 0 0,.d (.slice l),.d (.int .i64 (l.length:Nat)),.d (.int .i64 i)] (sA F x c0 ch) K (fun o e s=>fin f67.keep 3 f67.res o e s=some (.d (.bool false),(sA F { x with en:=3 } c0 ch))):=by
 have hwi:=ac i (by omega)
 have ht:decide ((i:Int) < ((l.length:Nat):Int))=true:=decide_eq_true (by omega)
 unfold ah
 refine Z3r ?_
 exact kG (xs:=[.d (.bool false)]) rfl rfl rfl rfl
theorem Ia (F:Fix) (hcs : ∀ c∈F.cs,c.Ok) (x:X) (hst:x.st.length=F.cs.length) (l:List D) (i:Nat) (hi:i < l.length) (hl:l.length < 1000) (c0:Nat×Nat) (ch:List (Nat×Nat)) (o:Nat) (f:Fo) (ho:o < F.cs.length) (hf:cU F.cs.length f) (hg:l[i]?=some (cmD 1 0 0 .z .z [] [] [f.d] [oD o])) {K:List Fr} {Q:Out->Env->aa->Prop} (h:ah VP 4 [0,21,22,23] ag [.ptr 0 0 0 0,.d (.slice l),.d (.int .i64 (l.length:Nat)),.d (.int .i64 (i+1:Nat))] (sC F { x with st:=x.st.set o (clA F.cs o (f.ev x.st)) } c0 ch) K Q):ah VP 4 [0,21,22,23] ag [.ptr 0 0 0 0,.d (.slice l),.d (.int .i64 (l.length:Nat)),.d (.int .i64 i)] (sC F x c0 ch) K Q:=by
 have hwi:=ac i (by omega)
 have ht:decide ((i:Int) < ((l.length:Nat):Int))=true:=decide_eq_true (by omega)
 have hE:=aE F.cs.length x.st hst f hf.1 (by have:=hf.2.1;omega) (by have:=hf.2.2;omega)
 have hu:=ho
 obtain ⟨c,hc,hcl⟩:=gS hcs ho
 have hcl:=hcl (f.ev x.st)
 unfold ah
 refine Z3r ?_
 refine lhX rfl rfl rfl rfl ?_
 (refine Z3r ?_;(repeat first | (refine fw (bR hE (aK rfl (by simp) (bM _)) rfl rfl (o0 ⟨rfl,rfl⟩)) ?_;refine Z3r ?_)))
 refine lhX rfl rfl rfl rfl ?_
 refine Z3r ?_
 refine lhX rfl rfl rfl rfl ?_
 (refine Z3r ?_;(repeat first | (refine fw (oim rfl rfl rfl rfl rfl (by rw [hst];first | exact ho | exact hu) (by rw [av,List.length_map,Nat.zero_add];first | exact Nat.le_refl _ | (rw [List.length_set];exact Nat.le_refl _)) (o0 ⟨rfl,rfl⟩)) ?_;refine Z3r ?_) | (refine fw (osD rfl (Nat.zero_add _) rfl rfl rfl (by rw [List.length_map];(try rw [List.length_set]);rw [hst];first | exact ho | exact hu) (dV _) rfl rfl (dU _ _ _) rfl (o0 ⟨rfl,rfl⟩)) ?_;refine Z3r ?_)))
 refine lhX rfl rfl rfl rfl ?_
 refine Z3r ?_
 rw [hwi]
 refine hdX rfl rfl rfl rfl ?_
 simp only [sC,List.length_set] at h
 exact h
theorem H7 (F:Fix) (hcs : ∀ c∈F.cs,c.Ok) (x:X) (hst:x.st.length=F.cs.length) (l:List D) (i:Nat) (hi:i < l.length) (hl:l.length < 1000) (c0:Nat×Nat) (ch:List (Nat×Nat)) (o u:Nat) (f g:Fo) (ho:o < F.cs.length) (hu:u < F.cs.length) (hf:cU F.cs.length f) (hg:cU F.cs.length g) (hget:l[i]?=some (cmD 1 0 0 .z .z [] [] [f.d,g.d] [oD o,oD u])) {K:List Fr} {Q:Out->Env->aa->Prop} (h:ah VP 4 [0,21,22,23] ag [.ptr 0 0 0 0,.d (.slice l),.d (.int .i64 (l.length:Nat)),.d (.int .i64 (i+1:Nat))] (sC F { x with st:=(x.st.set o (clA F.cs o (f.ev x.st))).set u (clA F.cs u (g.ev x.st)) } c0 ch) K Q):ah VP 4 [0,21,22,23] ag [.ptr 0 0 0 0,.d (.slice l),.d (.int .i64 (l.length:Nat)),.d (.int .i64 i)] (sC F x c0 ch) K Q:=by
 have hwi:=ac i (by omega)
 have ht:decide ((i:Int) < ((l.length:Nat):Int))=true:=decide_eq_true (by omega)
 have hE1:=aE F.cs.length x.st hst f hf.1 (by have:=hf.2.1;omega) (by have:=hf.2.2;omega)
 have hE2:=aE F.cs.length x.st hst g hg.1 (by have:=hg.2.1;omega) (by have:=hg.2.2;omega)
 obtain ⟨c,hc,hcl⟩:=gS hcs ho
 have hcl:=hcl (f.ev x.st)
 obtain ⟨c',hc',hcl'⟩:=gS hcs hu
 have hcl':=hcl' (g.ev x.st)
 unfold ah
 refine Z3r ?_
 refine lhX rfl rfl rfl rfl ?_
 (refine Z3r ?_;(repeat first | (refine fw (bR hE1 (aK rfl (by simp) (bM _)) rfl rfl (o0 ⟨rfl,rfl⟩)) ?_;refine Z3r ?_)))
 refine lhX rfl rfl rfl rfl ?_
 (refine Z3r ?_;(repeat first | (refine fw (bR hE2 (aK rfl (by simp) (bM _)) rfl rfl (o0 ⟨rfl,rfl⟩)) ?_;refine Z3r ?_)))
 refine lhX rfl rfl rfl rfl ?_
 refine Z3r ?_
 refine lhX rfl rfl rfl rfl ?_
 (refine Z3r ?_;(repeat first | (refine fw (oim rfl rfl rfl rfl rfl (by rw [hst];first | exact ho | exact hu) (by rw [av,List.length_map,Nat.zero_add];first | exact Nat.le_refl _ | (rw [List.length_set];exact Nat.le_refl _)) (o0 ⟨rfl,rfl⟩)) ?_;refine Z3r ?_) | (refine fw (osD rfl (Nat.zero_add _) rfl rfl rfl (by rw [List.length_map];(try rw [List.length_set]);rw [hst];first | exact ho | exact hu) (dV _) rfl rfl (dU _ _ _) rfl (o0 ⟨rfl,rfl⟩)) ?_;refine Z3r ?_)))
 refine lhX rfl rfl rfl rfl ?_
 (refine Z3r ?_;(repeat first | (refine fw (oim rfl rfl rfl rfl rfl (by rw [hst];first | exact ho | exact hu) (by rw [av,List.length_map,Nat.zero_add];first | exact Nat.le_refl _ | (rw [List.length_set];exact Nat.le_refl _)) (o0 ⟨rfl,rfl⟩)) ?_;refine Z3r ?_) | (refine fw (osD rfl (Nat.zero_add _) rfl rfl rfl (by rw [List.length_map];(try rw [List.length_set]);rw [hst];first | exact ho | exact hu) (dV _) rfl rfl (dU _ _ _) rfl (o0 ⟨rfl,rfl⟩)) ?_;refine Z3r ?_)))
 refine lhX rfl rfl rfl rfl ?_
 refine Z3r ?_
 rw [hwi]
 refine hdX rfl rfl rfl rfl ?_
 simp only [sC,List.length_set] at h
 exact h
theorem Iq (F:Fix) (hcs : ∀ c∈F.cs,c.Ok) (x:X) (hst:x.st.length=F.cs.length) (l:List D) (i:Nat) (hi:i < l.length) (hl:l.length < 1000) (c0:Nat×Nat) (ch:List (Nat×Nat)) (f:Fo) (hf:cU F.cs.length f) (hg:l[i]?=some (cmD 4 0 0 f .z [] [] [] [])) (h0:f.ev x.st≠0) {K:List Fr} {Q:Out->Env->aa->Prop} (h:ah VP 4 [0,21,22,23] ag [.ptr 0 0 0 0,.d (.slice l),.d (.int .i64 (l.length:Nat)),.d (.int .i64 (i+1:Nat))] (sC F x c0 ch) K Q):ah VP 4 [0,21,22,23] ag [.ptr 0 0 0 0,.d (.slice l),.d (.int .i64 (l.length:Nat)),.d (.int .i64 i)] (sC F x c0 ch) K Q:=by
 have hwi:=ac i (by omega)
 have ht:decide ((i:Int) < ((l.length:Nat):Int))=true:=decide_eq_true (by omega)
 have hE:=aE F.cs.length x.st hst f hf.1 (by have:=hf.2.1;omega) (by have:=hf.2.2;omega)
 have t0:(f.ev x.st==0)=false:=by simpa using h0
 unfold ah
 (refine Z3r ?_;(repeat first | (refine fw (bR hE (aK rfl (by simp) (bM _)) rfl rfl (o0 ⟨rfl,rfl⟩)) ?_;refine Z3r ?_)))
 rw [hwi]
 refine hdX rfl rfl rfl rfl ?_
 exact h
theorem It (F:Fix) (hcs : ∀ c∈F.cs,c.Ok) (x:X) (hst:x.st.length=F.cs.length) (l:List D) (i:Nat) (hi:i < l.length) (hl:l.length < 1000) (c0:Nat×Nat) (ch:List (Nat×Nat)) (f:Fo) (hf:cU F.cs.length f) (hg:l[i]?=some (cmD 4 0 0 f .z [] [] [] [])) (h0:f.ev x.st=0) {K:List Fr} : ah VP 4 [0,21,22,23] ag [.ptr 0 0 0 0,.d (.slice l),.d (.int .i64 (l.length:Nat)),.d (.int .i64 i)] (sC F x c0 ch) K (fun o e s=>fin f67.keep 4 f67.res o e s=some (.d (.bool false),(sC F { x with en:=2 } c0 ch))):=by
 have hwi:=ac i (by omega)
 have ht:decide ((i:Int) < ((l.length:Nat):Int))=true:=decide_eq_true (by omega)
 have hE:=aE F.cs.length x.st hst f hf.1 (by have:=hf.2.1;omega) (by have:=hf.2.2;omega)
 have t0:(f.ev x.st==0)=true:=by simpa using h0
 unfold ah
 (refine Z3r ?_;(repeat first | (refine fw (bR hE (aK rfl (by simp) (bM _)) rfl rfl (o0 ⟨rfl,rfl⟩)) ?_;refine Z3r ?_)))
 exact kG (xs:=[.d (.bool false)]) rfl rfl rfl rfl
theorem abN (F:Fix) (hcs : ∀ c∈F.cs,c.Ok) (x:X) (hst:x.st.length=F.cs.length) (l:List D) (i:Nat) (hi:i < l.length) (hl:l.length < 1000) (c0:Nat×Nat) (ch:List (Nat×Nat)) (hg:l[i]?=some (cmD 5 0 0 .z .z [] [] [] [])) {K:List Fr} : ah VP 4 [0,21,22,23] ag [.ptr 0 0 0 0,.d (.slice l),.d (.int .i64 (l.length:Nat)),.d (.int .i64 i)] (sC F x c0 ch) K (fun o e s=>fin f67.keep 4 f67.res o e s=some (.d (.bool false),(sC F { x with en:=3 } c0 ch))):=by
 have hwi:=ac i (by omega)
 have ht:decide ((i:Int) < ((l.length:Nat):Int))=true:=decide_eq_true (by omega)
 unfold ah
 refine Z3r ?_
 exact kG (xs:=[.d (.bool false)]) rfl rfl rfl rfl
theorem wC (F:Fix) (hcs : ∀ c∈F.cs,c.Ok) (x:X) (hst:x.st.length=F.cs.length) (l:List D) (i:Nat) (hi:i < l.length) (hl:l.length < 1000) (y:X) (f:Fo) (a b:List D) (hf:cU F.cs.length f) (hg:l[i]?=some (cmD 3 0 0 f .z a b [] [])) (h0:f.ev x.st≠0) (hr:Ret VP (.fn 67) [.ptr 0 0 0 0,.d (.slice a)] (sN F x) (.d (.bool true)) (sN F y)) {K:List Fr} {Q:Out->Env->aa->Prop} (h:ah VP 3 [0,21,22,23] ag [.ptr 0 0 0 0,.d (.slice l),.d (.int .i64 (l.length:Nat)),.d (.int .i64 (i+1:Nat))] (sN F y) K Q):ah VP 3 [0,21,22,23] ag [.ptr 0 0 0 0,.d (.slice l),.d (.int .i64 (l.length:Nat)),.d (.int .i64 i)] (sN F x) K Q:=by
 have hwi:=ac i (by omega)
 have ht:decide ((i:Int) < ((l.length:Nat):Int))=true:=decide_eq_true (by omega)
 have hE:=aE F.cs.length x.st hst f hf.1 (by have:=hf.2.1;omega) (by have:=hf.2.2;omega)
 have t0:(f.ev x.st != 0)=true:=by simpa using h0
 unfold ah
 (refine Z3r ?_;(repeat first | (refine fw (bR hE (aK rfl (by simp) (bM _)) rfl rfl (o0 ⟨rfl,rfl⟩)) ?_;refine Z3r ?_) | (refine oRX hr rfl rfl rfl rfl rfl rfl rfl rfl ?_;refine Z3r ?_)))
 rw [hwi]
 refine hdX rfl rfl rfl rfl ?_
 exact h
theorem tw (F:Fix) (hcs : ∀ c∈F.cs,c.Ok) (x:X) (hst:x.st.length=F.cs.length) (l:List D) (i:Nat) (hi:i < l.length) (hl:l.length < 1000) (y:X) (f:Fo) (a b:List D) (hf:cU F.cs.length f) (hg:l[i]?=some (cmD 3 0 0 f .z a b [] [])) (h0:f.ev x.st≠0) (hr:Ret VP (.fn 67) [.ptr 0 0 0 0,.d (.slice a)] (sN F x) (.d (.bool false)) (sN F y)) {K:List Fr} : ah VP 3 [0,21,22,23] ag [.ptr 0 0 0 0,.d (.slice l),.d (.int .i64 (l.length:Nat)),.d (.int .i64 i)] (sN F x) K (fun o e s=>fin f67.keep 3 f67.res o e s=some (.d (.bool false),(sN F y))):=by
 have hwi:=ac i (by omega)
 have ht:decide ((i:Int) < ((l.length:Nat):Int))=true:=decide_eq_true (by omega)
 have hE:=aE F.cs.length x.st hst f hf.1 (by have:=hf.2.1;omega) (by have:=hf.2.2;omega)
 have t0:(f.ev x.st != 0)=true:=by simpa using h0
 unfold ah
 (refine Z3r ?_;(repeat first | (refine fw (bR hE (aK rfl (by simp) (bM _)) rfl rfl (o0 ⟨rfl,rfl⟩)) ?_;refine Z3r ?_) | (refine oRX hr rfl rfl rfl rfl rfl rfl rfl rfl ?_;refine Z3r ?_)))
 exact kG (xs:=[.d (.bool false)]) rfl rfl rfl rfl
theorem wD (F:Fix) (hcs : ∀ c∈F.cs,c.Ok) (x:X) (hst:x.st.length=F.cs.length) (l:List D) (i:Nat) (hi:i < l.length) (hl:l.length < 1000) (y:X) (f:Fo) (a b:List D) (hf:cU F.cs.length f) (hg:l[i]?=some (cmD 3 0 0 f .z a b [] [])) (h0:f.ev x.st=0) (hr:Ret VP (.fn 67) [.ptr 0 0 0 0,.d (.slice b)] (sN F x) (.d (.bool true)) (sN F y)) {K:List Fr} {Q:Out->Env->aa->Prop} (h:ah VP 3 [0,21,22,23] ag [.ptr 0 0 0 0,.d (.slice l),.d (.int .i64 (l.length:Nat)),.d (.int .i64 (i+1:Nat))] (sN F y) K Q):ah VP 3 [0,21,22,23] ag [.ptr 0 0 0 0,.d (.slice l),.d (.int .i64 (l.length:Nat)),.d (.int .i64 i)] (sN F x) K Q:=by
 have hwi:=ac i (by omega)
 have ht:decide ((i:Int) < ((l.length:Nat):Int))=true:=decide_eq_true (by omega)
 have hE:=aE F.cs.length x.st hst f hf.1 (by have:=hf.2.1;omega) (by have:=hf.2.2;omega)
 have t0:(f.ev x.st != 0)=false:=by simpa using h0
 unfold ah
 (refine Z3r ?_;(repeat first | (refine fw (bR hE (aK rfl (by simp) (bM _)) rfl rfl (o0 ⟨rfl,rfl⟩)) ?_;refine Z3r ?_) | (refine oRX hr rfl rfl rfl rfl rfl rfl rfl rfl ?_;refine Z3r ?_)))
 rw [hwi]
 refine hdX rfl rfl rfl rfl ?_
 exact h
theorem tz (F:Fix) (hcs : ∀ c∈F.cs,c.Ok) (x:X) (hst:x.st.length=F.cs.length) (l:List D) (i:Nat) (hi:i < l.length) (hl:l.length < 1000) (y:X) (f:Fo) (a b:List D) (hf:cU F.cs.length f) (hg:l[i]?=some (cmD 3 0 0 f .z a b [] [])) (h0:f.ev x.st=0) (hr:Ret VP (.fn 67) [.ptr 0 0 0 0,.d (.slice b)] (sN F x) (.d (.bool false)) (sN F y)) {K:List Fr} : ah VP 3 [0,21,22,23] ag [.ptr 0 0 0 0,.d (.slice l),.d (.int .i64 (l.length:Nat)),.d (.int .i64 i)] (sN F x) K (fun o e s=>fin f67.keep 3 f67.res o e s=some (.d (.bool false),(sN F y))):=by
 have hwi:=ac i (by omega)
 have ht:decide ((i:Int) < ((l.length:Nat):Int))=true:=decide_eq_true (by omega)
 have hE:=aE F.cs.length x.st hst f hf.1 (by have:=hf.2.1;omega) (by have:=hf.2.2;omega)
 have t0:(f.ev x.st != 0)=false:=by simpa using h0
 unfold ah
 (refine Z3r ?_;(repeat first | (refine fw (bR hE (aK rfl (by simp) (bM _)) rfl rfl (o0 ⟨rfl,rfl⟩)) ?_;refine Z3r ?_) | (refine oRX hr rfl rfl rfl rfl rfl rfl rfl rfl ?_;refine Z3r ?_)))
 exact kG (xs:=[.d (.bool false)]) rfl rfl rfl rfl
theorem wE (F:Fix) (hcs : ∀ c∈F.cs,c.Ok) (x:X) (hst:x.st.length=F.cs.length) (l:List D) (i:Nat) (hi:i < l.length) (hl:l.length < 1000) (c1:Nat×Nat) (ch1:List (Nat×Nat)) (y:X) (f:Fo) (a b:List D) (hf:cU F.cs.length f) (hg:l[i]?=some (cmD 3 0 0 f .z a b [] [])) (h0:f.ev x.st≠0) (hr:Ret VP (.fn 67) [.ptr 0 0 0 0,.d (.slice a)] (sN F x) (.d (.bool true)) (sA F y c1 ch1)) {K:List Fr} {Q:Out->Env->aa->Prop} (h:ah VP 3 [0,21,22,23] ag [.ptr 0 0 0 0,.d (.slice l),.d (.int .i64 (l.length:Nat)),.d (.int .i64 (i+1:Nat))] (sA F y c1 ch1) K Q):ah VP 3 [0,21,22,23] ag [.ptr 0 0 0 0,.d (.slice l),.d (.int .i64 (l.length:Nat)),.d (.int .i64 i)] (sN F x) K Q:=by
 have hwi:=ac i (by omega)
 have ht:decide ((i:Int) < ((l.length:Nat):Int))=true:=decide_eq_true (by omega)
 have hE:=aE F.cs.length x.st hst f hf.1 (by have:=hf.2.1;omega) (by have:=hf.2.2;omega)
 have t0:(f.ev x.st != 0)=true:=by simpa using h0
 unfold ah
 (refine Z3r ?_;(repeat first | (refine fw (bR hE (aK rfl (by simp) (bM _)) rfl rfl (o0 ⟨rfl,rfl⟩)) ?_;refine Z3r ?_) | (refine oRX hr rfl rfl rfl rfl rfl rfl rfl rfl ?_;refine Z3r ?_)))
 rw [hwi]
 refine hdX rfl rfl rfl rfl ?_
 exact h
theorem tC (F:Fix) (hcs : ∀ c∈F.cs,c.Ok) (x:X) (hst:x.st.length=F.cs.length) (l:List D) (i:Nat) (hi:i < l.length) (hl:l.length < 1000) (c1:Nat×Nat) (ch1:List (Nat×Nat)) (y:X) (f:Fo) (a b:List D) (hf:cU F.cs.length f) (hg:l[i]?=some (cmD 3 0 0 f .z a b [] [])) (h0:f.ev x.st≠0) (hr:Ret VP (.fn 67) [.ptr 0 0 0 0,.d (.slice a)] (sN F x) (.d (.bool false)) (sA F y c1 ch1)) {K:List Fr} : ah VP 3 [0,21,22,23] ag [.ptr 0 0 0 0,.d (.slice l),.d (.int .i64 (l.length:Nat)),.d (.int .i64 i)] (sN F x) K (fun o e s=>fin f67.keep 3 f67.res o e s=some (.d (.bool false),(sA F y c1 ch1))):=by
 have hwi:=ac i (by omega)
 have ht:decide ((i:Int) < ((l.length:Nat):Int))=true:=decide_eq_true (by omega)
 have hE:=aE F.cs.length x.st hst f hf.1 (by have:=hf.2.1;omega) (by have:=hf.2.2;omega)
 have t0:(f.ev x.st != 0)=true:=by simpa using h0
 unfold ah
 (refine Z3r ?_;(repeat first | (refine fw (bR hE (aK rfl (by simp) (bM _)) rfl rfl (o0 ⟨rfl,rfl⟩)) ?_;refine Z3r ?_) | (refine oRX hr rfl rfl rfl rfl rfl rfl rfl rfl ?_;refine Z3r ?_)))
 exact kG (xs:=[.d (.bool false)]) rfl rfl rfl rfl
theorem wF (F:Fix) (hcs : ∀ c∈F.cs,c.Ok) (x:X) (hst:x.st.length=F.cs.length) (l:List D) (i:Nat) (hi:i < l.length) (hl:l.length < 1000) (c1:Nat×Nat) (ch1:List (Nat×Nat)) (y:X) (f:Fo) (a b:List D) (hf:cU F.cs.length f) (hg:l[i]?=some (cmD 3 0 0 f .z a b [] [])) (h0:f.ev x.st=0) (hr:Ret VP (.fn 67) [.ptr 0 0 0 0,.d (.slice b)] (sN F x) (.d (.bool true)) (sA F y c1 ch1)) {K:List Fr} {Q:Out->Env->aa->Prop} (h:ah VP 3 [0,21,22,23] ag [.ptr 0 0 0 0,.d (.slice l),.d (.int .i64 (l.length:Nat)),.d (.int .i64 (i+1:Nat))] (sA F y c1 ch1) K Q):ah VP 3 [0,21,22,23] ag [.ptr 0 0 0 0,.d (.slice l),.d (.int .i64 (l.length:Nat)),.d (.int .i64 i)] (sN F x) K Q:=by
 have hwi:=ac i (by omega)
 have ht:decide ((i:Int) < ((l.length:Nat):Int))=true:=decide_eq_true (by omega)
 have hE:=aE F.cs.length x.st hst f hf.1 (by have:=hf.2.1;omega) (by have:=hf.2.2;omega)
 have t0:(f.ev x.st != 0)=false:=by simpa using h0
 unfold ah
 (refine Z3r ?_;(repeat first | (refine fw (bR hE (aK rfl (by simp) (bM _)) rfl rfl (o0 ⟨rfl,rfl⟩)) ?_;refine Z3r ?_) | (refine oRX hr rfl rfl rfl rfl rfl rfl rfl rfl ?_;refine Z3r ?_)))
 rw [hwi]
 refine hdX rfl rfl rfl rfl ?_
 exact h
theorem tD (F:Fix) (hcs : ∀ c∈F.cs,c.Ok) (x:X) (hst:x.st.length=F.cs.length) (l:List D) (i:Nat) (hi:i < l.length) (hl:l.length < 1000) (c1:Nat×Nat) (ch1:List (Nat×Nat)) (y:X) (f:Fo) (a b:List D) (hf:cU F.cs.length f) (hg:l[i]?=some (cmD 3 0 0 f .z a b [] [])) (h0:f.ev x.st=0) (hr:Ret VP (.fn 67) [.ptr 0 0 0 0,.d (.slice b)] (sN F x) (.d (.bool false)) (sA F y c1 ch1)) {K:List Fr} : ah VP 3 [0,21,22,23] ag [.ptr 0 0 0 0,.d (.slice l),.d (.int .i64 (l.length:Nat)),.d (.int .i64 i)] (sN F x) K (fun o e s=>fin f67.keep 3 f67.res o e s=some (.d (.bool false),(sA F y c1 ch1))):=by
 have hwi:=ac i (by omega)
 have ht:decide ((i:Int) < ((l.length:Nat):Int))=true:=decide_eq_true (by omega)
 have hE:=aE F.cs.length x.st hst f hf.1 (by have:=hf.2.1;omega) (by have:=hf.2.2;omega)
 have t0:(f.ev x.st != 0)=false:=by simpa using h0
 unfold ah
 (refine Z3r ?_;(repeat first | (refine fw (bR hE (aK rfl (by simp) (bM _)) rfl rfl (o0 ⟨rfl,rfl⟩)) ?_;refine Z3r ?_) | (refine oRX hr rfl rfl rfl rfl rfl rfl rfl rfl ?_;refine Z3r ?_)))
 exact kG (xs:=[.d (.bool false)]) rfl rfl rfl rfl
theorem wI (F:Fix) (hcs : ∀ c∈F.cs,c.Ok) (x:X) (hst:x.st.length=F.cs.length) (l:List D) (i:Nat) (hi:i < l.length) (hl:l.length < 1000) (c0:Nat×Nat) (ch:List (Nat×Nat)) (c1:Nat×Nat) (ch1:List (Nat×Nat)) (y:X) (f:Fo) (a b:List D) (hf:cU F.cs.length f) (hg:l[i]?=some (cmD 3 0 0 f .z a b [] [])) (h0:f.ev x.st≠0) (hr:Ret VP (.fn 67) [.ptr 0 0 0 0,.d (.slice a)] (sC F x c0 ch) (.d (.bool true)) (sC F y c1 ch1)) {K:List Fr} {Q:Out->Env->aa->Prop} (h:ah VP 3 [0,21,22,23] ag [.ptr 0 0 0 0,.d (.slice l),.d (.int .i64 (l.length:Nat)),.d (.int .i64 (i+1:Nat))] (sA F y c1 ch1) K Q):ah VP 3 [0,21,22,23] ag [.ptr 0 0 0 0,.d (.slice l),.d (.int .i64 (l.length:Nat)),.d (.int .i64 i)] (sA F x c0 ch) K Q:=by
 have hwi:=ac i (by omega)
 have ht:decide ((i:Int) < ((l.length:Nat):Int))=true:=decide_eq_true (by omega)
 have hE:=aE F.cs.length x.st hst f hf.1 (by have:=hf.2.1;omega) (by have:=hf.2.2;omega)
 have t0:(f.ev x.st != 0)=true:=by simpa using h0
 unfold ah
 (refine Z3r ?_;(repeat first | (refine fw (bR hE (aK rfl (by simp) (bM _)) rfl rfl (o0 ⟨rfl,rfl⟩)) ?_;refine Z3r ?_) | (refine oRX hr rfl rfl rfl rfl rfl rfl rfl rfl ?_;refine Z3r ?_)))
 rw [hwi]
 refine hdX rfl rfl rfl rfl ?_
 exact h
theorem tG (F:Fix) (hcs : ∀ c∈F.cs,c.Ok) (x:X) (hst:x.st.length=F.cs.length) (l:List D) (i:Nat) (hi:i < l.length) (hl:l.length < 1000) (c0:Nat×Nat) (ch:List (Nat×Nat)) (c1:Nat×Nat) (ch1:List (Nat×Nat)) (y:X) (f:Fo) (a b:List D) (hf:cU F.cs.length f) (hg:l[i]?=some (cmD 3 0 0 f .z a b [] [])) (h0:f.ev x.st≠0) (hr:Ret VP (.fn 67) [.ptr 0 0 0 0,.d (.slice a)] (sC F x c0 ch) (.d (.bool false)) (sC F y c1 ch1)) {K:List Fr} : ah VP 3 [0,21,22,23] ag [.ptr 0 0 0 0,.d (.slice l),.d (.int .i64 (l.length:Nat)),.d (.int .i64 i)] (sA F x c0 ch) K (fun o e s=>fin f67.keep 3 f67.res o e s=some (.d (.bool false),(sA F y c1 ch1))):=by
 have hwi:=ac i (by omega)
 have ht:decide ((i:Int) < ((l.length:Nat):Int))=true:=decide_eq_true (by omega)
 have hE:=aE F.cs.length x.st hst f hf.1 (by have:=hf.2.1;omega) (by have:=hf.2.2;omega)
 have t0:(f.ev x.st != 0)=true:=by simpa using h0
 unfold ah
 (refine Z3r ?_;(repeat first | (refine fw (bR hE (aK rfl (by simp) (bM _)) rfl rfl (o0 ⟨rfl,rfl⟩)) ?_;refine Z3r ?_) | (refine oRX hr rfl rfl rfl rfl rfl rfl rfl rfl ?_;refine Z3r ?_)))
 exact kG (xs:=[.d (.bool false)]) rfl rfl rfl rfl
theorem wJ (F:Fix) (hcs : ∀ c∈F.cs,c.Ok) (x:X) (hst:x.st.length=F.cs.length) (l:List D) (i:Nat) (hi:i < l.length) (hl:l.length < 1000) (c0:Nat×Nat) (ch:List (Nat×Nat)) (c1:Nat×Nat) (ch1:List (Nat×Nat)) (y:X) (f:Fo) (a b:List D) (hf:cU F.cs.length f) (hg:l[i]?=some (cmD 3 0 0 f .z a b [] [])) (h0:f.ev x.st=0) (hr:Ret VP (.fn 67) [.ptr 0 0 0 0,.d (.slice b)] (sC F x c0 ch) (.d (.bool true)) (sC F y c1 ch1)) {K:List Fr} {Q:Out->Env->aa->Prop} (h:ah VP 3 [0,21,22,23] ag [.ptr 0 0 0 0,.d (.slice l),.d (.int .i64 (l.length:Nat)),.d (.int .i64 (i+1:Nat))] (sA F y c1 ch1) K Q):ah VP 3 [0,21,22,23] ag [.ptr 0 0 0 0,.d (.slice l),.d (.int .i64 (l.length:Nat)),.d (.int .i64 i)] (sA F x c0 ch) K Q:=by
 have hwi:=ac i (by omega)
 have ht:decide ((i:Int) < ((l.length:Nat):Int))=true:=decide_eq_true (by omega)
 have hE:=aE F.cs.length x.st hst f hf.1 (by have:=hf.2.1;omega) (by have:=hf.2.2;omega)
 have t0:(f.ev x.st != 0)=false:=by simpa using h0
 unfold ah
 (refine Z3r ?_;(repeat first | (refine fw (bR hE (aK rfl (by simp) (bM _)) rfl rfl (o0 ⟨rfl,rfl⟩)) ?_;refine Z3r ?_) | (refine oRX hr rfl rfl rfl rfl rfl rfl rfl rfl ?_;refine Z3r ?_)))
 rw [hwi]
 refine hdX rfl rfl rfl rfl ?_
 exact h
theorem tH (F:Fix) (hcs : ∀ c∈F.cs,c.Ok) (x:X) (hst:x.st.length=F.cs.length) (l:List D) (i:Nat) (hi:i < l.length) (hl:l.length < 1000) (c0:Nat×Nat) (ch:List (Nat×Nat)) (c1:Nat×Nat) (ch1:List (Nat×Nat)) (y:X) (f:Fo) (a b:List D) (hf:cU F.cs.length f) (hg:l[i]?=some (cmD 3 0 0 f .z a b [] [])) (h0:f.ev x.st=0) (hr:Ret VP (.fn 67) [.ptr 0 0 0 0,.d (.slice b)] (sC F x c0 ch) (.d (.bool false)) (sC F y c1 ch1)) {K:List Fr} : ah VP 3 [0,21,22,23] ag [.ptr 0 0 0 0,.d (.slice l),.d (.int .i64 (l.length:Nat)),.d (.int .i64 i)] (sA F x c0 ch) K (fun o e s=>fin f67.keep 3 f67.res o e s=some (.d (.bool false),(sA F y c1 ch1))):=by
 have hwi:=ac i (by omega)
 have ht:decide ((i:Int) < ((l.length:Nat):Int))=true:=decide_eq_true (by omega)
 have hE:=aE F.cs.length x.st hst f hf.1 (by have:=hf.2.1;omega) (by have:=hf.2.2;omega)
 have t0:(f.ev x.st != 0)=false:=by simpa using h0
 unfold ah
 (refine Z3r ?_;(repeat first | (refine fw (bR hE (aK rfl (by simp) (bM _)) rfl rfl (o0 ⟨rfl,rfl⟩)) ?_;refine Z3r ?_) | (refine oRX hr rfl rfl rfl rfl rfl rfl rfl rfl ?_;refine Z3r ?_)))
 exact kG (xs:=[.d (.bool false)]) rfl rfl rfl rfl
theorem wG (F:Fix) (hcs : ∀ c∈F.cs,c.Ok) (x:X) (hst:x.st.length=F.cs.length) (l:List D) (i:Nat) (hi:i < l.length) (hl:l.length < 1000) (c0:Nat×Nat) (ch:List (Nat×Nat)) (c1:Nat×Nat) (ch1:List (Nat×Nat)) (y:X) (f:Fo) (a b:List D) (hf:cU F.cs.length f) (hg:l[i]?=some (cmD 3 0 0 f .z a b [] [])) (h0:f.ev x.st≠0) (hr:Ret VP (.fn 67) [.ptr 0 0 0 0,.d (.slice a)] (sC F x c0 ch) (.d (.bool true)) (sC F y c1 ch1)) {K:List Fr} {Q:Out->Env->aa->Prop} (h:ah VP 4 [0,21,22,23] ag [.ptr 0 0 0 0,.d (.slice l),.d (.int .i64 (l.length:Nat)),.d (.int .i64 (i+1:Nat))] (sC F y c1 ch1) K Q):ah VP 4 [0,21,22,23] ag [.ptr 0 0 0 0,.d (.slice l),.d (.int .i64 (l.length:Nat)),.d (.int .i64 i)] (sC F x c0 ch) K Q:=by
 have hwi:=ac i (by omega)
 have ht:decide ((i:Int) < ((l.length:Nat):Int))=true:=decide_eq_true (by omega)
 have hE:=aE F.cs.length x.st hst f hf.1 (by have:=hf.2.1;omega) (by have:=hf.2.2;omega)
 have t0:(f.ev x.st != 0)=true:=by simpa using h0
 unfold ah
 (refine Z3r ?_;(repeat first | (refine fw (bR hE (aK rfl (by simp) (bM _)) rfl rfl (o0 ⟨rfl,rfl⟩)) ?_;refine Z3r ?_) | (refine oRX hr rfl rfl rfl rfl rfl rfl rfl rfl ?_;refine Z3r ?_)))
 rw [hwi]
 refine hdX rfl rfl rfl rfl ?_
 exact h
theorem tE (F:Fix) (hcs : ∀ c∈F.cs,c.Ok) (x:X) (hst:x.st.length=F.cs.length) (l:List D) (i:Nat) (hi:i < l.length) (hl:l.length < 1000) (c0:Nat×Nat) (ch:List (Nat×Nat)) (c1:Nat×Nat) (ch1:List (Nat×Nat)) (y:X) (f:Fo) (a b:List D) (hf:cU F.cs.length f) (hg:l[i]?=some (cmD 3 0 0 f .z a b [] [])) (h0:f.ev x.st≠0) (hr:Ret VP (.fn 67) [.ptr 0 0 0 0,.d (.slice a)] (sC F x c0 ch) (.d (.bool false)) (sC F y c1 ch1)) {K:List Fr} : ah VP 4 [0,21,22,23] ag [.ptr 0 0 0 0,.d (.slice l),.d (.int .i64 (l.length:Nat)),.d (.int .i64 i)] (sC F x c0 ch) K (fun o e s=>fin f67.keep 4 f67.res o e s=some (.d (.bool false),(sC F y c1 ch1))):=by
 have hwi:=ac i (by omega)
 have ht:decide ((i:Int) < ((l.length:Nat):Int))=true:=decide_eq_true (by omega)
 have hE:=aE F.cs.length x.st hst f hf.1 (by have:=hf.2.1;omega) (by have:=hf.2.2;omega)
 have t0:(f.ev x.st != 0)=true:=by simpa using h0
 unfold ah
 (refine Z3r ?_;(repeat first | (refine fw (bR hE (aK rfl (by simp) (bM _)) rfl rfl (o0 ⟨rfl,rfl⟩)) ?_;refine Z3r ?_) | (refine oRX hr rfl rfl rfl rfl rfl rfl rfl rfl ?_;refine Z3r ?_)))
 exact kG (xs:=[.d (.bool false)]) rfl rfl rfl rfl
theorem wH (F:Fix) (hcs : ∀ c∈F.cs,c.Ok) (x:X) (hst:x.st.length=F.cs.length) (l:List D) (i:Nat) (hi:i < l.length) (hl:l.length < 1000) (c0:Nat×Nat) (ch:List (Nat×Nat)) (c1:Nat×Nat) (ch1:List (Nat×Nat)) (y:X) (f:Fo) (a b:List D) (hf:cU F.cs.length f) (hg:l[i]?=some (cmD 3 0 0 f .z a b [] [])) (h0:f.ev x.st=0) (hr:Ret VP (.fn 67) [.ptr 0 0 0 0,.d (.slice b)] (sC F x c0 ch) (.d (.bool true)) (sC F y c1 ch1)) {K:List Fr} {Q:Out->Env->aa->Prop} (h:ah VP 4 [0,21,22,23] ag [.ptr 0 0 0 0,.d (.slice l),.d (.int .i64 (l.length:Nat)),.d (.int .i64 (i+1:Nat))] (sC F y c1 ch1) K Q):ah VP 4 [0,21,22,23] ag [.ptr 0 0 0 0,.d (.slice l),.d (.int .i64 (l.length:Nat)),.d (.int .i64 i)] (sC F x c0 ch) K Q:=by
 have hwi:=ac i (by omega)
 have ht:decide ((i:Int) < ((l.length:Nat):Int))=true:=decide_eq_true (by omega)
 have hE:=aE F.cs.length x.st hst f hf.1 (by have:=hf.2.1;omega) (by have:=hf.2.2;omega)
 have t0:(f.ev x.st != 0)=false:=by simpa using h0
 unfold ah
 (refine Z3r ?_;(repeat first | (refine fw (bR hE (aK rfl (by simp) (bM _)) rfl rfl (o0 ⟨rfl,rfl⟩)) ?_;refine Z3r ?_) | (refine oRX hr rfl rfl rfl rfl rfl rfl rfl rfl ?_;refine Z3r ?_)))
 rw [hwi]
 refine hdX rfl rfl rfl rfl ?_
 exact h
theorem tF (F:Fix) (hcs : ∀ c∈F.cs,c.Ok) (x:X) (hst:x.st.length=F.cs.length) (l:List D) (i:Nat) (hi:i < l.length) (hl:l.length < 1000) (c0:Nat×Nat) (ch:List (Nat×Nat)) (c1:Nat×Nat) (ch1:List (Nat×Nat)) (y:X) (f:Fo) (a b:List D) (hf:cU F.cs.length f) (hg:l[i]?=some (cmD 3 0 0 f .z a b [] [])) (h0:f.ev x.st=0) (hr:Ret VP (.fn 67) [.ptr 0 0 0 0,.d (.slice b)] (sC F x c0 ch) (.d (.bool false)) (sC F y c1 ch1)) {K:List Fr} : ah VP 4 [0,21,22,23] ag [.ptr 0 0 0 0,.d (.slice l),.d (.int .i64 (l.length:Nat)),.d (.int .i64 i)] (sC F x c0 ch) K (fun o e s=>fin f67.keep 4 f67.res o e s=some (.d (.bool false),(sC F y c1 ch1))):=by
 have hwi:=ac i (by omega)
 have ht:decide ((i:Int) < ((l.length:Nat):Int))=true:=decide_eq_true (by omega)
 have hE:=aE F.cs.length x.st hst f hf.1 (by have:=hf.2.1;omega) (by have:=hf.2.2;omega)
 have t0:(f.ev x.st != 0)=false:=by simpa using h0
 unfold ah
 (refine Z3r ?_;(repeat first | (refine fw (bR hE (aK rfl (by simp) (bM _)) rfl rfl (o0 ⟨rfl,rfl⟩)) ?_;refine Z3r ?_) | (refine oRX hr rfl rfl rfl rfl rfl rfl rfl rfl ?_;refine Z3r ?_)))
 exact kG (xs:=[.d (.bool false)]) rfl rfl rfl rfl
end Go.Proofs.YtemffeblbmimfaaGreat
namespace Go.Proofs.YtemffeblbmimfaaGreat
open Go.IntWalk
attribute [local irreducible] au
set_option maxHeartbeats 4000000
set_option maxRecDepth 100000
structure FOK (F:Fix):Prop where
 hcs : ∀ c∈F.cs,c.Ok
 hb:F.b<=1000
 hall : ∀ t∈F.ts,t < F.b
 ht6:F.ts.length<=6
structure InvX (F:Fix) (x:X):Prop where
 hst:x.st.length=F.cs.length
 hm0:x.m≠0
 hm1:x.m.num.natAbs<=8 ^ x.tk
 hm2:x.m.den<=8 ^ x.tk
 hch:x.ch.length=x.tk
theorem InvX.fit {F:Fix} {x:X} (I:InvX F x) (h:x.tk<=5):fit 65536 x.m:=by
 have h1:=I.hm1
 have h2:=I.hm2
 have h3:8 ^ x.tk<=8 ^ 5:=Nat.pow_le_pow_right (by decide) h
 have h4:(8:Nat) ^ 5=32768:=by decide
 exact ⟨by omega,by omega⟩
theorem vX {F:Fix} (K:FOK F) {n:Nat} (hn:n < F.ts.length) (w:List D) (hw:w∈W0):Wn (w.getD (pk w (F.q n)) p0):=by
 obtain ⟨_,p,hp,hwn⟩:=hH 0 0 0 F.b F.ts n K.hb K.hall (by have:=K.ht6;omega) hn w hw
 change w[pk w (F.q n)]?=some p at hp
 rw [List.getD_eq_getElem?_getD,hp];exact hwn
theorem kE {F:Fix} (K:FOK F) {x:X} (I:InvX F x) (hn:x.tk < F.ts.length) (w:List D) (hw:w∈W0) (ch:List (Nat×Nat)) (hch:ch.length=x.tk+1) (v:Nat) (z en:Int):InvX F { ch:=ch,m:=x.m*val2 (w.getD (pk w (F.q x.tk)) p0),st:=x.st.set v z,en:=en,tk:=x.tk+1 } := by
 have ⟨_,h0,h8⟩:=(vX K hn w hw).val
 generalize val2 (w.getD (pk w (F.q x.tk)) p0)=r at h0 h8
 have hp:=lB x.m r
 refine ⟨by simpa using I.hst,?_,?_,?_,hch⟩
 · intro h
   have h:=h
   rcases Rat.mul_eq_zero.1 h with h | h
   · exact I.hm0 h
   · exact h0 h
 · show (x.m*r).num.natAbs<=8 ^ (x.tk+1)
   rw [Nat.pow_succ]
   exact Nat.le_trans hp.1 (Nat.mul_le_mul I.hm1 h8.1)
 · show (x.m*r).den<=8 ^ (x.tk+1)
   rw [Nat.pow_succ]
   exact Nat.le_trans hp.2 (Nat.mul_le_mul I.hm2 h8.2)
structure AftX (F:Fix) (x y:X) (n:Nat):Prop where
 inv:InvX F y
 lo:x.tk<=y.tk
 hi:y.tk<=x.tk+n
theorem iU {F:Fix} (K:FOK F) : ∀ (h:Nat) (l:List Cm),(∀ c∈l,Ok F.cs.length W0 h c) -> ∀ x,InvX F x->x.tk+(Cm.tbs l).length<=F.ts.length->AftX F x (Cm.exs F.cs F.q l x).1 (Cm.tbs l).length:=by
 intro h
 induction h with
 | zero=>intro l hl x I _;rw [b5 hl];exact ⟨I,Nat.le_refl _,Nat.le_add_right _ _⟩
 | succ h ih =>
   have hc : ∀ c,Ok F.cs.length W0 (h+1) c -> ∀ x,InvX F x->x.tk+c.tb.length<=F.ts.length->AftX F x (c.ex F.cs F.q x).1 c.tb.length:=by
    intro c hc x I hb
    cases hc with
    | set o f ho hf=>simp only [Cm.ex,if_true];exact ⟨⟨by simpa using I.hst,I.hm0,I.hm1,I.hm2,I.hch⟩,Nat.le_refl _,Nat.le_add_right _ _⟩
    | set2 o u f g ho hu hn hf hg=>simp only [Cm.ex,if_true];exact ⟨⟨by simpa using I.hst,I.hm0,I.hm1,I.hm2,I.hch⟩,Nat.le_refl _,Nat.le_add_right _ _⟩
    | draw v s lo w hv hs hw h1 h2 =>
      have e:(Cm.mk 2 v s .z (.tab lo w) [] [] [] []).tb=[dsD 1 lo w]:=rfl
      rw [e] at hb ⊢
      have hb':x.tk < F.ts.length:=by simp at hb;omega
      have e1:((2:Int)=1)=False:=by simp
      simp only [Cm.ex,e1,if_false,if_true,Di.w]
      refine ⟨kE K I hb' w hw _ (by simp [I.hch]) _ _ _,?_,?_⟩<;>simp
    | iff f a b hf ha hb' ca cb =>
      have e:(Cm.mk 3 0 0 f .z a b [] []).tb=Cm.tbs a++Cm.tbs b:=by simp [Cm.tb]
      rw [e,List.length_append] at hb ⊢
      have e1:((3:Int)=1)=False:=by simp
      have e2:((3:Int)=2)=False:=by simp
      simp only [Cm.ex,e1,e2,if_false,if_true]
      split
      · have:=ih b cb x I (by omega);exact ⟨this.inv,this.lo,by have:=this.hi;omega⟩
      · have:=ih a ca x I (by omega);exact ⟨this.inv,this.lo,by have:=this.hi;omega⟩
    | obs f hf =>
      have e1:((4:Int)=1)=False:=by simp
      have e2:((4:Int)=2)=False:=by simp
      have e3:((4:Int)=3)=False:=by simp
      simp only [Cm.ex,e1,e2,e3,if_false,if_true]
      split<;>exact ⟨⟨I.hst,I.hm0,I.hm1,I.hm2,I.hch⟩,Nat.le_refl _,Nat.le_add_right _ _⟩
    | cut =>
      have e1:((5:Int)=1)=False:=by simp
      have e2:((5:Int)=2)=False:=by simp
      have e3:((5:Int)=3)=False:=by simp
      have e4:((5:Int)=4)=False:=by simp
      simp only [Cm.ex,e1,e2,e3,e4,if_false,if_true]
      exact ⟨⟨I.hst,I.hm0,I.hm1,I.hm2,I.hch⟩,Nat.le_refl _,Nat.le_add_right _ _⟩
   intro l
   induction l with
   | nil=>intro _ x I _;exact ⟨I,Nat.le_refl _,Nat.le_add_right _ _⟩
   | cons c l ihl =>
     intro hl x I hb
     simp only [Cm.tbs,List.length_append] at hb ⊢
     have h1:=hc c (hl c (by simp)) x I (by omega)
     simp only [Cm.exs]
     have hh:=h1.hi
     split
     · have h2:=ihl (fun c hc=>hl c (by simp [hc])) _ h1.inv (by omega)
       exact ⟨h2.inv,by have:=h1.lo;have:=h2.lo;omega,by have:=h2.hi;omega⟩
     · exact ⟨h1.inv,h1.lo,by show (Cm.ex F.cs F.q c x).1.tk<=_;omega⟩
def SN (F:Fix) (x:X):List (Nat×Nat)->aa
 | []=>sN F x
 | c::l=>sA F x c l
def SC (F:Fix) (x:X):List (Nat×Nat)->aa
 | []=>[]
 | c::l=>sC F x c l
theorem rp {cs:List Ce} {q:Nat->Rat} (o:Nat) (f:Fo) (x:X):(Cm.mk 1 0 0 .z .z [] [] [f] [o]).ex cs q x=({ x with st:=x.st.set o (clA cs o (f.ev x.st)) },true):=by simp only [Cm.ex,if_true]
theorem rn {cs:List Ce} {q:Nat->Rat} (o u:Nat) (f g:Fo) (x:X):(Cm.mk 1 0 0 .z .z [] [] [f,g] [o,u]).ex cs q x=({ x with st:=(x.st.set o (clA cs o (f.ev x.st))).set u (clA cs u (g.ev x.st)) },true):=by simp only [Cm.ex,if_true]
theorem rq {cs:List Ce} {q:Nat->Rat} (v s:Nat) (lo:Int) (w:List D) (x:X):(Cm.mk 2 v s .z (.tab lo w) [] [] [] []).ex cs q x=({ ch:=x.ch++[(s,pk w (q x.tk))],m:=x.m*val2 (w.getD (pk w (q x.tk)) p0),st:=x.st.set v (clA cs v (lo+(pk w (q x.tk):Nat))),en:=x.en,tk:=x.tk+1 },true):=by
 have e1:((2:Int)=1)=False:=by simp
 simp only [Cm.ex,e1,if_false,if_true,Di.w,Di.lo,Int.toNat_natCast]
theorem u7 {cs:List Ce} {q:Nat->Rat} (f:Fo) (a b:List Cm) (x:X):(Cm.mk 3 0 0 f .z a b [] []).ex cs q x=if f.ev x.st=0 then Cm.exs cs q b x else Cm.exs cs q a x:=by
 have e1:((3:Int)=1)=False:=by simp
 have e2:((3:Int)=2)=False:=by simp
 simp only [Cm.ex,e1,e2,if_false,if_true]
theorem u6 {cs:List Ce} {q:Nat->Rat} (f:Fo) (x:X):(Cm.mk 4 0 0 f .z [] [] [] []).ex cs q x=if f.ev x.st=0 then ({ x with en:=2 },false) else (x,true):=by
 have e1:((4:Int)=1)=False:=by simp
 have e2:((4:Int)=2)=False:=by simp
 have e3:((4:Int)=3)=False:=by simp
 simp only [Cm.ex,e1,e2,e3,if_false,if_true]
theorem u9 {cs:List Ce} {q:Nat->Rat} (x:X):(Cm.mk 5 0 0 .z .z [] [] [] []).ex cs q x=({ x with en:=3 },false):=by
 have e1:((5:Int)=1)=False:=by simp
 have e2:((5:Int)=2)=False:=by simp
 have e3:((5:Int)=3)=False:=by simp
 have e4:((5:Int)=4)=False:=by simp
 simp only [Cm.ex,e1,e2,e3,e4,if_false]
theorem qQ {l pre suf:List Cm} {c:Cm} (h:l=pre++c::suf):(l.map Cm.d)[pre.length]?=some c.d:=by
 rw [h,List.getElem?_map,List.getElem?_append_right (Nat.le_refl _),Nat.sub_self];rfl
abbrev GN (F:Fix) (y:X) (ok:Bool) (ch:List (Nat×Nat)):Out->Env->aa->Prop:=fun o e s=>fin f67.keep 3 f67.res o e s=some (.d (.bool ok),SN F y ch)
abbrev GC (F:Fix) (y:X) (ok:Bool) (ch:List (Nat×Nat)):Out->Env->aa->Prop:=fun o e s=>fin f67.keep 4 f67.res o e s=some (.d (.bool ok),SC F y ch)
def am5 (F:Fix) (h:Nat):Prop := ∀ l:List Cm,(∀ c∈l,Ok F.cs.length W0 h c)->l.length<=8 -> ∀ x,InvX F x->x.tk+(Cm.tbs l).length<=F.ts.length->x.ch=[]->Ret VP (.fn 67) [.ptr 0 0 0 0,.d (.slice (l.map Cm.d))] (sN F x) (.d (.bool (Cm.exs F.cs F.q l x).2)) (SN F (Cm.exs F.cs F.q l x).1 (Cm.exs F.cs F.q l x).1.ch)
def am6 (F:Fix) (h:Nat):Prop := ∀ l:List Cm,(∀ c∈l,Ok F.cs.length W0 h c)->l.length<=8 -> ∀ x,InvX F x->x.tk+(Cm.tbs l).length<=F.ts.length -> ∀ c0 ch,x.ch=c0::ch->Ret VP (.fn 67) [.ptr 0 0 0 0,.d (.slice (l.map Cm.d))] (sC F x c0 ch) (.d (.bool (Cm.exs F.cs F.q l x).2)) (SC F (Cm.exs F.cs F.q l x).1 (Cm.exs F.cs F.q l x).1.ch)
theorem dj {F:Fix} {x y:X} {n:Nat} (I:InvX F x) (A:AftX F x y n) {c0:Nat×Nat} {ch:List (Nat×Nat)} (h:x.ch=c0::ch) : ∃ c1 ch1,y.ch=c1::ch1:=by
 cases hy:y.ch with
 | nil =>
   have h1:=A.inv.hch
   have h2:=I.hch
   have h3:=A.lo
   rw [hy] at h1;rw [h] at h2
   simp at h1 h2;omega
 | cons c1 ch1=>exact ⟨c1,ch1,rfl⟩
theorem abE (F:Fix) (KF:FOK F) (h:Nat) (ihN:am5 F h) (ihC:am6 F h) (l:List Cm) (hl : ∀ c∈l,Ok F.cs.length W0 (h+1) c) (h8:l.length<=8) (R:X×Bool) : ∀ (suf pre:List Cm) (x:X),l=pre++suf->InvX F x->x.tk+(Cm.tbs suf).length<=F.ts.length->Cm.exs F.cs F.q suf x=R ->
 ah VP 3 [0,21,22,23] ag [.ptr 0 0 0 0,.d (.slice (l.map Cm.d)),.d (.int .i64 ((l.map Cm.d).length:Nat)),.d (.int .i64 (pre.length:Nat))] (SN F x x.ch) [.block 0,.seq aW] (GN F R.1 R.2 R.1.ch):=by
 intro suf
 induction suf with
 | nil =>
   intro pre x hp I hb hR
   have hf:decide ((pre.length:Int) < (((l.map Cm.d).length:Nat):Int))=false:=by rw [hp];simp
   simp only [Cm.exs] at hR
   subst hR
   show ah VP 3 [0,21,22,23] ag [.ptr 0 0 0 0,.d (.slice (l.map Cm.d)),.d (.int .i64 ((l.map Cm.d).length:Nat)),.d (.int .i64 (pre.length:Nat))] (SN F x x.ch) [.block 0,.seq aW] (GN F x true x.ch)
   rcases hx:x.ch with _ | ⟨c0,ch⟩
   · show ah VP 3 [0,21,22,23] ag [.ptr 0 0 0 0,.d (.slice (l.map Cm.d)),.d (.int .i64 ((l.map Cm.d).length:Nat)),.d (.int .i64 (pre.length:Nat))] (sN F x) [.block 0,.seq aW] (GN F x true [])
     unfold ah
     refine Z3r ?_
     exact kG (xs:=[.d (.bool true)]) rfl rfl rfl rfl
   · show ah VP 3 [0,21,22,23] ag [.ptr 0 0 0 0,.d (.slice (l.map Cm.d)),.d (.int .i64 ((l.map Cm.d).length:Nat)),.d (.int .i64 (pre.length:Nat))] (sA F x c0 ch) [.block 0,.seq aW] (GN F x true (c0::ch))
     unfold ah
     refine Z3r ?_
     exact kG (xs:=[.d (.bool true)]) rfl rfl rfl rfl
 | cons c suf ihs =>
   intro pre x hp I hb hR
   have hi:pre.length < (l.map Cm.d).length:=by rw [hp];simp
   have hln:(l.map Cm.d).length < 1000:=by rw [List.length_map];omega
   have hg:=qQ hp
   have hok:=hl c (by rw [hp];simp)
   simp only [Cm.exs] at hR
   simp only [Cm.tbs,List.length_append] at hb
   have hnext : ∀ y:X,InvX F y->y.tk+(Cm.tbs suf).length<=F.ts.length->Cm.exs F.cs F.q suf y=R->ah VP 3 [0,21,22,23] ag [.ptr 0 0 0 0,.d (.slice (l.map Cm.d)),.d (.int .i64 ((l.map Cm.d).length:Nat)),.d (.int .i64 (pre.length+1:Nat))] (SN F y y.ch) [.block 0,.seq aW] (GN F R.1 R.2 R.1.ch):=by
    intro y Iy hy hRy
    have h1:=ihs (pre++[c]) y (by simp [hp]) Iy hy hRy
    rwa [List.length_append,List.length_cons,List.length_nil] at h1
   cases hok with
   | set o f ho hf =>
     rw [rp,if_pos rfl] at hR
     have h1:ah VP 3 [0,21,22,23] ag [.ptr 0 0 0 0,.d (.slice (l.map Cm.d)),.d (.int .i64 ((l.map Cm.d).length:Nat)),.d (.int .i64 (pre.length+1:Nat))] (SN F { x with st:=x.st.set o (clA F.cs o (f.ev x.st)) } x.ch) [.block 0,.seq aW] (GN F R.1 R.2 R.1.ch):=hnext { x with st:=x.st.set o (clA F.cs o (f.ev x.st)) } ⟨by simpa using I.hst,I.hm0,I.hm1,I.hm2,I.hch⟩ (by show x.tk+_<=_;omega) hR
     rcases hx:x.ch with _ | ⟨c0,ch⟩
     · rw [hx] at h1
       exact H9 F KF.hcs x I.hst _ _ hi hln o f ho hf hg h1
     · rw [hx] at h1
       exact Ib F KF.hcs x I.hst _ _ hi hln c0 ch o f ho hf hg h1
   | set2 o u f g ho hu hou hf hgg =>
     rw [rn,if_pos rfl] at hR
     have h1:ah VP 3 [0,21,22,23] ag [.ptr 0 0 0 0,.d (.slice (l.map Cm.d)),.d (.int .i64 ((l.map Cm.d).length:Nat)),.d (.int .i64 (pre.length+1:Nat))] (SN F { x with st:=(x.st.set o (clA F.cs o (f.ev x.st))).set u (clA F.cs u (g.ev x.st)) } x.ch) [.block 0,.seq aW] (GN F R.1 R.2 R.1.ch):=hnext { x with st:=(x.st.set o (clA F.cs o (f.ev x.st))).set u (clA F.cs u (g.ev x.st)) } ⟨by simpa using I.hst,I.hm0,I.hm1,I.hm2,I.hch⟩ (by show x.tk+_<=_;omega) hR
     rcases hx:x.ch with _ | ⟨c0,ch⟩
     · rw [hx] at h1
       exact H6 F KF.hcs x I.hst _ _ hi hln o u f g ho hu hf hgg hg h1
     · rw [hx] at h1
       exact H8 F KF.hcs x I.hst _ _ hi hln c0 ch o u f g ho hu hf hgg hg h1
   | draw v s lo w hv hs hw h1 h2 =>
     rw [rq,if_pos rfl] at hR
     have etb:(Cm.mk 2 v s .z (.tab lo w) [] [] [] []).tb.length=1:=rfl
     rw [etb] at hb
     have htk:x.tk < F.ts.length:=by omega
     have h6:=KF.ht6
     have h3:ah VP 3 [0,21,22,23] ag [.ptr 0 0 0 0,.d (.slice (l.map Cm.d)),.d (.int .i64 ((l.map Cm.d).length:Nat)),.d (.int .i64 (pre.length+1:Nat))] (SN F { ch:=x.ch++[(s,pk w (F.q x.tk))],m:=x.m*val2 (w.getD (pk w (F.q x.tk)) p0),st:=x.st.set v (clA F.cs v (lo+(pk w (F.q x.tk):Nat))),en:=x.en,tk:=x.tk+1 } (x.ch++[(s,pk w (F.q x.tk))])) [.block 0,.seq aW] (GN F R.1 R.2 R.1.ch):=hnext { ch:=x.ch++[(s,pk w (F.q x.tk))],m:=x.m*val2 (w.getD (pk w (F.q x.tk)) p0),st:=x.st.set v (clA F.cs v (lo+(pk w (F.q x.tk):Nat))),en:=x.en,tk:=x.tk+1 } (kE KF I htk w hw _ (by simp [I.hch]) _ _ _) (by show x.tk+1+_<=_;omega) hR
     rcases hx:x.ch with _ | ⟨c0,ch⟩
     · rw [hx] at h3
       exact I4 F KF.hcs x I.hst _ _ hi hln v s lo w hv hw h1 h2 KF.hb KF.hall htk (by omega) I.hm0 (I.fit (by omega)) hg h3
     · rw [hx] at h3
       exact I6 F KF.hcs x I.hst _ _ hi hln c0 ch (by have:=I.hch;rw [hx] at this;simp at this;omega) v s lo w hv hw h1 h2 KF.hb KF.hall htk (by omega) I.hm0 (I.fit (by omega)) hg h3
   | iff f a b hf ha hb' ca cb =>
     rw [u7] at hR
     rw [Cm.d_eq] at hg
     have etb:(Cm.mk 3 0 0 f .z a b [] []).tb=Cm.tbs a++Cm.tbs b:=by simp [Cm.tb]
     rw [etb,List.length_append] at hb
     by_cases h0:f.ev x.st=0
     · rw [if_pos h0] at hR
       have A:=iU KF h b cb x I (by omega)
       have hrN:=ihN b cb (by omega) x I (by omega)
       have hrC:=ihC b cb (by omega) x I (by omega)
       generalize Cm.exs F.cs F.q b x=r at hR A hrN hrC
       obtain ⟨y,ok⟩:=r
       dsimp only at hR A hrN hrC
       cases ok with
       | false =>
         rw [if_neg (by simp)] at hR
         subst hR
         show ah VP 3 [0,21,22,23] ag [.ptr 0 0 0 0,.d (.slice (l.map Cm.d)),.d (.int .i64 ((l.map Cm.d).length:Nat)),.d (.int .i64 (pre.length:Nat))] (SN F x x.ch) [.block 0,.seq aW] (GN F y false y.ch)
         rcases hx:x.ch with _ | ⟨c0,ch⟩
         · have hr:=hrN hx
           rcases hy:y.ch with _ | ⟨c1,ch1⟩
           · rw [hy] at hr
             exact tz F KF.hcs x I.hst _ _ hi hln y f _ _ hf hg h0 hr
           · rw [hy] at hr
             exact tD F KF.hcs x I.hst _ _ hi hln c1 ch1 y f _ _ hf hg h0 hr
         · have hr:=hrC c0 ch hx
           obtain ⟨c1,ch1,hy⟩:=dj I A hx
           rw [hy] at hr ⊢
           exact tH F KF.hcs x I.hst _ _ hi hln c0 ch c1 ch1 y f _ _ hf hg h0 hr
       | true =>
         rw [if_pos rfl] at hR
         have h1:=hnext y A.inv (by have:=A.hi;omega) hR
         rcases hx:x.ch with _ | ⟨c0,ch⟩
         · have hr:=hrN hx
           rcases hy:y.ch with _ | ⟨c1,ch1⟩
           · rw [hy] at hr h1
             exact wD F KF.hcs x I.hst _ _ hi hln y f _ _ hf hg h0 hr h1
           · rw [hy] at hr h1
             exact wF F KF.hcs x I.hst _ _ hi hln c1 ch1 y f _ _ hf hg h0 hr h1
         · have hr:=hrC c0 ch hx
           obtain ⟨c1,ch1,hy⟩:=dj I A hx
           rw [hy] at hr h1
           exact wJ F KF.hcs x I.hst _ _ hi hln c0 ch c1 ch1 y f _ _ hf hg h0 hr h1
     · rw [if_neg h0] at hR
       have A:=iU KF h a ca x I (by omega)
       have hrN:=ihN a ca (by omega) x I (by omega)
       have hrC:=ihC a ca (by omega) x I (by omega)
       generalize Cm.exs F.cs F.q a x=r at hR A hrN hrC
       obtain ⟨y,ok⟩:=r
       dsimp only at hR A hrN hrC
       cases ok with
       | false =>
         rw [if_neg (by simp)] at hR
         subst hR
         show ah VP 3 [0,21,22,23] ag [.ptr 0 0 0 0,.d (.slice (l.map Cm.d)),.d (.int .i64 ((l.map Cm.d).length:Nat)),.d (.int .i64 (pre.length:Nat))] (SN F x x.ch) [.block 0,.seq aW] (GN F y false y.ch)
         rcases hx:x.ch with _ | ⟨c0,ch⟩
         · have hr:=hrN hx
           rcases hy:y.ch with _ | ⟨c1,ch1⟩
           · rw [hy] at hr
             exact tw F KF.hcs x I.hst _ _ hi hln y f _ _ hf hg h0 hr
           · rw [hy] at hr
             exact tC F KF.hcs x I.hst _ _ hi hln c1 ch1 y f _ _ hf hg h0 hr
         · have hr:=hrC c0 ch hx
           obtain ⟨c1,ch1,hy⟩:=dj I A hx
           rw [hy] at hr ⊢
           exact tG F KF.hcs x I.hst _ _ hi hln c0 ch c1 ch1 y f _ _ hf hg h0 hr
       | true =>
         rw [if_pos rfl] at hR
         have h1:=hnext y A.inv (by have:=A.hi;omega) hR
         rcases hx:x.ch with _ | ⟨c0,ch⟩
         · have hr:=hrN hx
           rcases hy:y.ch with _ | ⟨c1,ch1⟩
           · rw [hy] at hr h1
             exact wC F KF.hcs x I.hst _ _ hi hln y f _ _ hf hg h0 hr h1
           · rw [hy] at hr h1
             exact wE F KF.hcs x I.hst _ _ hi hln c1 ch1 y f _ _ hf hg h0 hr h1
         · have hr:=hrC c0 ch hx
           obtain ⟨c1,ch1,hy⟩:=dj I A hx
           rw [hy] at hr h1
           exact wI F KF.hcs x I.hst _ _ hi hln c0 ch c1 ch1 y f _ _ hf hg h0 hr h1
   | obs f hf =>
     rw [u6] at hR
     by_cases h0:f.ev x.st=0
     · rw [if_pos h0,if_neg (by simp)] at hR
       subst hR
       show ah VP 3 [0,21,22,23] ag [.ptr 0 0 0 0,.d (.slice (l.map Cm.d)),.d (.int .i64 ((l.map Cm.d).length:Nat)),.d (.int .i64 (pre.length:Nat))] (SN F x x.ch) [.block 0,.seq aW] (GN F { x with en:=2 } false x.ch)
       rcases hx:x.ch with _ | ⟨c0,ch⟩
       · exact Is F KF.hcs x I.hst _ _ hi hln f hf hg h0
       · exact Iu F KF.hcs x I.hst _ _ hi hln c0 ch f hf hg h0
     · rw [if_neg h0,if_pos rfl] at hR
       have h1:=hnext x I (by omega) hR
       rcases hx:x.ch with _ | ⟨c0,ch⟩
       · rw [hx] at h1
         exact Ip F KF.hcs x I.hst _ _ hi hln f hf hg h0 h1
       · rw [hx] at h1
         exact Ir F KF.hcs x I.hst _ _ hi hln c0 ch f hf hg h0 h1
   | cut =>
     rw [u9,if_neg (by simp)] at hR
     subst hR
     show ah VP 3 [0,21,22,23] ag [.ptr 0 0 0 0,.d (.slice (l.map Cm.d)),.d (.int .i64 ((l.map Cm.d).length:Nat)),.d (.int .i64 (pre.length:Nat))] (SN F x x.ch) [.block 0,.seq aW] (GN F { x with en:=3 } false x.ch)
     rcases hx:x.ch with _ | ⟨c0,ch⟩
     · exact abM F KF.hcs x I.hst _ _ hi hln hg
     · exact abO F KF.hcs x I.hst _ _ hi hln c0 ch hg
theorem abF (F:Fix) (KF:FOK F) (h:Nat) (ihN:am5 F h) (ihC:am6 F h) (l:List Cm) (hl : ∀ c∈l,Ok F.cs.length W0 (h+1) c) (h8:l.length<=8) (R:X×Bool) : ∀ (suf pre:List Cm) (x:X),l=pre++suf->InvX F x->x.tk+(Cm.tbs suf).length<=F.ts.length->x.ch≠[]->Cm.exs F.cs F.q suf x=R ->
 ah VP 4 [0,21,22,23] ag [.ptr 0 0 0 0,.d (.slice (l.map Cm.d)),.d (.int .i64 ((l.map Cm.d).length:Nat)),.d (.int .i64 (pre.length:Nat))] (SC F x x.ch) [.block 0,.seq aW] (GC F R.1 R.2 R.1.ch):=by
 intro suf
 induction suf with
 | nil =>
   intro pre x hp I hb hne hR
   have hf:decide ((pre.length:Int) < (((l.map Cm.d).length:Nat):Int))=false:=by rw [hp];simp
   simp only [Cm.exs] at hR
   subst hR
   show ah VP 4 [0,21,22,23] ag [.ptr 0 0 0 0,.d (.slice (l.map Cm.d)),.d (.int .i64 ((l.map Cm.d).length:Nat)),.d (.int .i64 (pre.length:Nat))] (SC F x x.ch) [.block 0,.seq aW] (GC F x true x.ch)
   obtain ⟨c0,ch,hx⟩ : ∃ c0 ch,x.ch=c0::ch:=List.exists_cons_of_ne_nil hne
   rw [hx]
   show ah VP 4 [0,21,22,23] ag [.ptr 0 0 0 0,.d (.slice (l.map Cm.d)),.d (.int .i64 ((l.map Cm.d).length:Nat)),.d (.int .i64 (pre.length:Nat))] (sC F x c0 ch) [.block 0,.seq aW] (GC F x true (c0::ch))
   unfold ah
   refine Z3r ?_
   exact kG (xs:=[.d (.bool true)]) rfl rfl rfl rfl
 | cons c suf ihs =>
   intro pre x hp I hb hne hR
   have hi:pre.length < (l.map Cm.d).length:=by rw [hp];simp
   have hln:(l.map Cm.d).length < 1000:=by rw [List.length_map];omega
   have hg:=qQ hp
   have hok:=hl c (by rw [hp];simp)
   simp only [Cm.exs] at hR
   simp only [Cm.tbs,List.length_append] at hb
   have hnext : ∀ y:X,InvX F y->y.tk+(Cm.tbs suf).length<=F.ts.length->y.ch≠[]->Cm.exs F.cs F.q suf y=R->ah VP 4 [0,21,22,23] ag [.ptr 0 0 0 0,.d (.slice (l.map Cm.d)),.d (.int .i64 ((l.map Cm.d).length:Nat)),.d (.int .i64 (pre.length+1:Nat))] (SC F y y.ch) [.block 0,.seq aW] (GC F R.1 R.2 R.1.ch):=by
    intro y Iy hy hyn hRy
    have h1:=ihs (pre++[c]) y (by simp [hp]) Iy hy hyn hRy
    rwa [List.length_append,List.length_cons,List.length_nil] at h1
   obtain ⟨c0,ch,hx⟩ : ∃ c0 ch,x.ch=c0::ch:=List.exists_cons_of_ne_nil hne
   cases hok with
   | set o f ho hf =>
     rw [rp,if_pos rfl] at hR
     have h1:ah VP 4 [0,21,22,23] ag [.ptr 0 0 0 0,.d (.slice (l.map Cm.d)),.d (.int .i64 ((l.map Cm.d).length:Nat)),.d (.int .i64 (pre.length+1:Nat))] (SC F { x with st:=x.st.set o (clA F.cs o (f.ev x.st)) } x.ch) [.block 0,.seq aW] (GC F R.1 R.2 R.1.ch):=hnext { x with st:=x.st.set o (clA F.cs o (f.ev x.st)) } ⟨by simpa using I.hst,I.hm0,I.hm1,I.hm2,I.hch⟩ (by show x.tk+_<=_;omega) hne hR
     rw [hx] at h1
     rw [hx]
     exact Ia F KF.hcs x I.hst _ _ hi hln c0 ch o f ho hf hg h1
   | set2 o u f g ho hu hou hf hgg =>
     rw [rn,if_pos rfl] at hR
     have h1:ah VP 4 [0,21,22,23] ag [.ptr 0 0 0 0,.d (.slice (l.map Cm.d)),.d (.int .i64 ((l.map Cm.d).length:Nat)),.d (.int .i64 (pre.length+1:Nat))] (SC F { x with st:=(x.st.set o (clA F.cs o (f.ev x.st))).set u (clA F.cs u (g.ev x.st)) } x.ch) [.block 0,.seq aW] (GC F R.1 R.2 R.1.ch):=hnext { x with st:=(x.st.set o (clA F.cs o (f.ev x.st))).set u (clA F.cs u (g.ev x.st)) } ⟨by simpa using I.hst,I.hm0,I.hm1,I.hm2,I.hch⟩ (by show x.tk+_<=_;omega) hne hR
     rw [hx] at h1
     rw [hx]
     exact H7 F KF.hcs x I.hst _ _ hi hln c0 ch o u f g ho hu hf hgg hg h1
   | draw v s lo w hv hs hw h1 h2 =>
     rw [rq,if_pos rfl] at hR
     have etb:(Cm.mk 2 v s .z (.tab lo w) [] [] [] []).tb.length=1:=rfl
     rw [etb] at hb
     have htk:x.tk < F.ts.length:=by omega
     have h6:=KF.ht6
     have h3:ah VP 4 [0,21,22,23] ag [.ptr 0 0 0 0,.d (.slice (l.map Cm.d)),.d (.int .i64 ((l.map Cm.d).length:Nat)),.d (.int .i64 (pre.length+1:Nat))] (SC F { ch:=x.ch++[(s,pk w (F.q x.tk))],m:=x.m*val2 (w.getD (pk w (F.q x.tk)) p0),st:=x.st.set v (clA F.cs v (lo+(pk w (F.q x.tk):Nat))),en:=x.en,tk:=x.tk+1 } (x.ch++[(s,pk w (F.q x.tk))])) [.block 0,.seq aW] (GC F R.1 R.2 R.1.ch):=hnext { ch:=x.ch++[(s,pk w (F.q x.tk))],m:=x.m*val2 (w.getD (pk w (F.q x.tk)) p0),st:=x.st.set v (clA F.cs v (lo+(pk w (F.q x.tk):Nat))),en:=x.en,tk:=x.tk+1 } (kE KF I htk w hw _ (by simp [I.hch]) _ _ _) (by show x.tk+1+_<=_;omega) (by simp) hR
     rw [hx] at h3
     rw [hx]
     exact I5 F KF.hcs x I.hst _ _ hi hln c0 ch (by have:=I.hch;rw [hx] at this;simp at this;omega) v s lo w hv hw h1 h2 KF.hb KF.hall htk (by omega) I.hm0 (I.fit (by omega)) hg h3
   | iff f a b hf ha hb' ca cb =>
     rw [u7] at hR
     rw [Cm.d_eq] at hg
     have etb:(Cm.mk 3 0 0 f .z a b [] []).tb=Cm.tbs a++Cm.tbs b:=by simp [Cm.tb]
     rw [etb,List.length_append] at hb
     by_cases h0:f.ev x.st=0
     · rw [if_pos h0] at hR
       have A:=iU KF h b cb x I (by omega)
       have hrC:=ihC b cb (by omega) x I (by omega) c0 ch hx
       generalize Cm.exs F.cs F.q b x=r at hR A hrC
       obtain ⟨y,ok⟩:=r
       dsimp only at hR A hrC
       cases ok with
       | false =>
         rw [if_neg (by simp)] at hR
         subst hR
         show ah VP 4 [0,21,22,23] ag [.ptr 0 0 0 0,.d (.slice (l.map Cm.d)),.d (.int .i64 ((l.map Cm.d).length:Nat)),.d (.int .i64 (pre.length:Nat))] (SC F x x.ch) [.block 0,.seq aW] (GC F y false y.ch)
         obtain ⟨c1,ch1,hy⟩:=dj I A hx
         have hr:=hrC
         rw [hy] at hr ⊢
         rw [hx]
         exact tF F KF.hcs x I.hst _ _ hi hln c0 ch c1 ch1 y f _ _ hf hg h0 hr
       | true =>
         rw [if_pos rfl] at hR
         have h1:=hnext y A.inv (by have:=A.hi;omega) (by obtain ⟨c1,ch1,hy⟩:=dj I A hx;simp [hy]) hR
         obtain ⟨c1,ch1,hy⟩:=dj I A hx
         have hr:=hrC
         rw [hy] at hr h1
         rw [hx]
         exact wH F KF.hcs x I.hst _ _ hi hln c0 ch c1 ch1 y f _ _ hf hg h0 hr h1
     · rw [if_neg h0] at hR
       have A:=iU KF h a ca x I (by omega)
       have hrC:=ihC a ca (by omega) x I (by omega) c0 ch hx
       generalize Cm.exs F.cs F.q a x=r at hR A hrC
       obtain ⟨y,ok⟩:=r
       dsimp only at hR A hrC
       cases ok with
       | false =>
         rw [if_neg (by simp)] at hR
         subst hR
         show ah VP 4 [0,21,22,23] ag [.ptr 0 0 0 0,.d (.slice (l.map Cm.d)),.d (.int .i64 ((l.map Cm.d).length:Nat)),.d (.int .i64 (pre.length:Nat))] (SC F x x.ch) [.block 0,.seq aW] (GC F y false y.ch)
         obtain ⟨c1,ch1,hy⟩:=dj I A hx
         have hr:=hrC
         rw [hy] at hr ⊢
         rw [hx]
         exact tE F KF.hcs x I.hst _ _ hi hln c0 ch c1 ch1 y f _ _ hf hg h0 hr
       | true =>
         rw [if_pos rfl] at hR
         have h1:=hnext y A.inv (by have:=A.hi;omega) (by obtain ⟨c1,ch1,hy⟩:=dj I A hx;simp [hy]) hR
         obtain ⟨c1,ch1,hy⟩:=dj I A hx
         have hr:=hrC
         rw [hy] at hr h1
         rw [hx]
         exact wG F KF.hcs x I.hst _ _ hi hln c0 ch c1 ch1 y f _ _ hf hg h0 hr h1
   | obs f hf =>
     rw [u6] at hR
     by_cases h0:f.ev x.st=0
     · rw [if_pos h0,if_neg (by simp)] at hR
       subst hR
       show ah VP 4 [0,21,22,23] ag [.ptr 0 0 0 0,.d (.slice (l.map Cm.d)),.d (.int .i64 ((l.map Cm.d).length:Nat)),.d (.int .i64 (pre.length:Nat))] (SC F x x.ch) [.block 0,.seq aW] (GC F { x with en:=2 } false x.ch)
       rw [hx]
       exact It F KF.hcs x I.hst _ _ hi hln c0 ch f hf hg h0
     · rw [if_neg h0,if_pos rfl] at hR
       have h1:=hnext x I (by omega) hne hR
       rw [hx] at h1
       rw [hx]
       exact Iq F KF.hcs x I.hst _ _ hi hln c0 ch f hf hg h0 h1
   | cut =>
     rw [u9,if_neg (by simp)] at hR
     subst hR
     show ah VP 4 [0,21,22,23] ag [.ptr 0 0 0 0,.d (.slice (l.map Cm.d)),.d (.int .i64 ((l.map Cm.d).length:Nat)),.d (.int .i64 (pre.length:Nat))] (SC F x x.ch) [.block 0,.seq aW] (GC F { x with en:=3 } false x.ch)
     rw [hx]
     exact abN F KF.hcs x I.hst _ _ hi hln c0 ch hg
theorem hX (F:Fix) (KF:FOK F) : ∀ h:Nat,am5 F h/\am6 F h:=by
 intro h
 induction h with
 | zero =>
   constructor
   · intro l hl h8 x I hb hx
     rw [b5 hl]
     have hR:Cm.exs F.cs F.q [] x=(x,true):=rfl
     rw [hR]
     dsimp only
     rw [hx]
     refine ret_of rfl rfl (r0 ?_)
     have k3:(sN F x).length=3:=rfl
     rw [k3]
     refine Z3r ?_
     refine hdX rfl rfl rfl rfl ?_
     unfold ah
     refine Z3r ?_
     exact kG (xs:=[.d (.bool true)]) rfl rfl rfl rfl
   · intro l hl h8 x I hb c0 ch hx
     rw [b5 hl]
     have hR:Cm.exs F.cs F.q [] x=(x,true):=rfl
     rw [hR]
     dsimp only
     rw [hx]
     refine ret_of rfl rfl (r0 ?_)
     have k4:(sC F x c0 ch).length=4:=rfl
     rw [k4]
     refine Z3r ?_
     refine hdX rfl rfl rfl rfl ?_
     unfold ah
     refine Z3r ?_
     exact kG (xs:=[.d (.bool true)]) rfl rfl rfl rfl
 | succ h ih =>
   constructor
   · intro l hl h8 x I hb hx
     have h1:=abE F KF h ih.1 ih.2 l hl h8 _ l [] x rfl I hb rfl
     rw [hx] at h1
     refine ret_of rfl rfl (r0 ?_)
     have k3:(sN F x).length=3:=rfl
     rw [k3]
     refine Z3r ?_
     refine hdX rfl rfl rfl rfl ?_
     exact h1
   · intro l hl h8 x I hb c0 ch hx
     have h1:=abF F KF h ih.1 ih.2 l hl h8 _ l [] x rfl I hb (by rw [hx];simp) rfl
     rw [hx] at h1
     refine ret_of rfl rfl (r0 ?_)
     have k4:(sC F x c0 ch).length=4:=rfl
     rw [k4]
     refine Z3r ?_
     refine hdX rfl rfl rfl rfl ?_
     exact h1
def trD (y:X):D := .agg [.slice (y.ch.map chD),.slice [ct y.m],.slice (y.st.map iD),.int .i64 y.en]
theorem Jy (l:List (Nat×Nat)):(l.map chD).all bJ=true:=by
 induction l with
 | nil=>rfl
 | cons c l ih=>rw [List.map_cons,List.all_cons,ih];rfl
theorem kc {s:aa} {b n:Nat} {st:List Int} {mass:D} {en:Int} (h8:getB s b=some (.rows 0 false 1 (ao (st.map iD)))) (hn:n=st.length) :
 toD s bB (.tuple [.agg [.nils,.d mass,.ms b 0 0 n,.d (.int .i64 en)],.d (.int .i64 0)])=some (.tuple [.agg [.slice [],mass,.slice (st.map iD),.int .i64 en],.int .i64 0],[b]):=by
 have h2:toD s 28 (.ms b 0 0 n)=some (.slice (st.map iD),[b]):=jr (n:=26) h8 (by rw [hn,List.length_map]) (bM st)
 show (aC (toD s 29) [.agg [.nils,.d mass,.ms b 0 0 n,.d (.int .i64 en)],.d (.int .i64 0)]).map (fun (es,a)=>(D.tuple es,a))=_
 have h3:toD s 29 (.agg [.nils,.d mass,.ms b 0 0 n,.d (.int .i64 en)])=some (.agg [.slice [],mass,.slice (st.map iD),.int .i64 en],[b]):=by
  show (aC (toD s 28) [.nils,.d mass,.ms b 0 0 n,.d (.int .i64 en)]).map (fun (es,a)=>(D.agg es,a))=_
  have h1:toD s 28 .nils=some (.slice [],[]):=rfl
  simp only [aC,h1,h2]
  rfl
 simp only [aC,h3]
 rfl
theorem ka {s:aa} {a b v k n:Nat} {ch:List (Nat×Nat)} {st:List Int} {mass:D} {en:Int} (h9:getB s a=some (.rows v false 2 (ao (ch.map chD)))) (hk:k=ch.length) (h8:getB s b=some (.rows 0 false 1 (ao (st.map iD)))) (hn:n=st.length) :
 toD s bB (.tuple [.agg [.ms a v 0 k,.d mass,.ms b 0 0 n,.d (.int .i64 en)],.d (.int .i64 0)])=some (.tuple [.agg [.slice (ch.map chD),mass,.slice (st.map iD),.int .i64 en],.int .i64 0],[a,b]):=by
 have h1:toD s 28 (.ms a v 0 k)=some (.slice (ch.map chD),[a]):=jr (n:=26) h9 (by rw [hk,List.length_map]) (Jy ch)
 have h2:toD s 28 (.ms b 0 0 n)=some (.slice (st.map iD),[b]):=jr (n:=26) h8 (by rw [hn,List.length_map]) (bM st)
 show (aC (toD s 29) [.agg [.ms a v 0 k,.d mass,.ms b 0 0 n,.d (.int .i64 en)],.d (.int .i64 0)]).map (fun (es,a)=>(D.tuple es,a))=_
 have h3:toD s 29 (.agg [.ms a v 0 k,.d mass,.ms b 0 0 n,.d (.int .i64 en)])=some (.agg [.slice (ch.map chD),mass,.slice (st.map iD),.int .i64 en],[a,b]):=by
  show (aC (toD s 28) [.ms a v 0 k,.d mass,.ms b 0 0 n,.d (.int .i64 en)]).map (fun (es,a)=>(D.agg es,a))=_
  simp only [aC,h1,h2]
  rfl
 simp only [aC,h3]
 rfl
def x0 (cs:List Ce):X:=⟨[],1,cs.map fun c=>c.cl 0,1,0⟩
theorem nj (F:Fix):InvX F (x0 F.cs):=⟨by simp [x0],by show (1:Rat)≠0;decide,by show (1:Rat).num.natAbs<=1;decide,by show (1:Rat).den<=1;decide,rfl⟩
theorem tf:Ret VP (.fn 65) [.d (.int .i64 1)] [] (.d (.slice [ct 1])) []:=by
 have h:=amA 1 (by omega)
 rwa [show cp ((1:Nat):Rat) = .slice [ct 1] by unfold cp;rw [if_neg (by decide)];rfl] at h
theorem tS (a:Ce) (bd:List Cm) (os:List Nat) (T:Ty) (b:Nat) (ts:List Nat) (KF:FOK ⟨[a],bd.map Cm.d,os,T,b,ts⟩) (hbd : ∀ c∈bd,Ok 1 W0 4 c) (h8:bd.length<=8) (ht:(Cm.tbs bd).length<=ts.length) (y:X) (hy:(Cm.exs [a] (Fix.q ⟨[a],bd.map Cm.d,os,T,b,ts⟩) bd (x0 [a])).1=y) :
 Ret VP (.fn 38) [.d (moD 0 [a] bd os T),.func 441 [.ptr 0 0 0 0] []] [some (rdB b ts 0)] (.d (.tuple [trD y,.int .i64 0])) [some (rdB b ts y.tk)]:=by
 have h1:=tf
 have hx:=(hX ⟨[a],bd.map Cm.d,os,T,b,ts⟩ KF 4).1 bd hbd h8 (x0 [a]) (nj ⟨[a],bd.map Cm.d,os,T,b,ts⟩) (by show 0+(Cm.tbs bd).length<=ts.length;omega) rfl
 dsimp only at hx
 rw [hy] at hx
 generalize (Cm.exs [a] (Fix.q ⟨[a],bd.map Cm.d,os,T,b,ts⟩) bd (x0 [a])).2=ok at hx
 have ca:=bI a (KF.hcs a (by simp)) 0
 rcases hz:y.ch with _ | ⟨c1,ch1⟩
 · rw [hz] at hx
   replace hx:Ret VP (.fn 67) [.ptr 0 0 0 0,.d (.slice (bd.map Cm.d))] (sN ⟨[a],bd.map Cm.d,os,T,b,ts⟩ (x0 [a])) (.d (.bool ok)) (sN ⟨[a],bd.map Cm.d,os,T,b,ts⟩ y):=hx
   have hq:=Hd.mk hx
   clear hx
   have e:trD y = .agg [.slice [],.slice [ct y.m],.slice (y.st.map iD),.int .i64 y.en]:=by unfold trD;rw [hz];rfl
   rw [e]
   refine ret_of rfl rfl (r0 ?_)
   refine Z3r ?_
   refine lhX rfl rfl rfl rfl ?_
   refine Z3r ?_
   refine lhX rfl rfl rfl rfl ?_
   (refine Z3r ?_;(repeat first | (refine oRX hq.h rfl rfl rfl rfl rfl rfl rfl rfl ?_;refine Z3r ?_)))
   exact ez (ids:=[0]) rfl (kc (en:=y.en) rfl rfl) rfl rfl rfl
 · rw [hz] at hx
   replace hx:Ret VP (.fn 67) [.ptr 0 0 0 0,.d (.slice (bd.map Cm.d))] (sN ⟨[a],bd.map Cm.d,os,T,b,ts⟩ (x0 [a])) (.d (.bool ok)) (sA ⟨[a],bd.map Cm.d,os,T,b,ts⟩ y c1 ch1):=hx
   have hq:=Hd.mk hx
   clear hx
   have e:trD y = .agg [.slice ((c1::ch1).map chD),.slice [ct y.m],.slice (y.st.map iD),.int .i64 y.en]:=by unfold trD;rw [hz]
   rw [e]
   refine ret_of rfl rfl (r0 ?_)
   refine Z3r ?_
   refine lhX rfl rfl rfl rfl ?_
   refine Z3r ?_
   refine lhX rfl rfl rfl rfl ?_
   (refine Z3r ?_;(repeat first | (refine oRX hq.h rfl rfl rfl rfl rfl rfl rfl rfl ?_;refine Z3r ?_)))
   exact ez (ids:=[0]) rfl (ka (ch:=c1::ch1) (en:=y.en) rfl rfl rfl rfl) rfl rfl rfl
theorem tR (a e1:Ce) (bd:List Cm) (os:List Nat) (T:Ty) (b:Nat) (ts:List Nat) (KF:FOK ⟨[a,e1],bd.map Cm.d,os,T,b,ts⟩) (hbd : ∀ c∈bd,Ok 2 W0 4 c) (h8:bd.length<=8) (ht:(Cm.tbs bd).length<=ts.length) (y:X) (hy:(Cm.exs [a,e1] (Fix.q ⟨[a,e1],bd.map Cm.d,os,T,b,ts⟩) bd (x0 [a,e1])).1=y) :
 Ret VP (.fn 38) [.d (moD 0 [a,e1] bd os T),.func 441 [.ptr 0 0 0 0] []] [some (rdB b ts 0)] (.d (.tuple [trD y,.int .i64 0])) [some (rdB b ts y.tk)]:=by
 have h1:=tf
 have hx:=(hX ⟨[a,e1],bd.map Cm.d,os,T,b,ts⟩ KF 4).1 bd hbd h8 (x0 [a,e1]) (nj ⟨[a,e1],bd.map Cm.d,os,T,b,ts⟩) (by show 0+(Cm.tbs bd).length<=ts.length;omega) rfl
 dsimp only at hx
 rw [hy] at hx
 generalize (Cm.exs [a,e1] (Fix.q ⟨[a,e1],bd.map Cm.d,os,T,b,ts⟩) bd (x0 [a,e1])).2=ok at hx
 have ca:=bI a (KF.hcs a (by simp)) 0
 have ce1:=bI e1 (KF.hcs e1 (by simp)) 0
 rcases hz:y.ch with _ | ⟨c1,ch1⟩
 · rw [hz] at hx
   replace hx:Ret VP (.fn 67) [.ptr 0 0 0 0,.d (.slice (bd.map Cm.d))] (sN ⟨[a,e1],bd.map Cm.d,os,T,b,ts⟩ (x0 [a,e1])) (.d (.bool ok)) (sN ⟨[a,e1],bd.map Cm.d,os,T,b,ts⟩ y):=hx
   have hq:=Hd.mk hx
   clear hx
   have e:trD y = .agg [.slice [],.slice [ct y.m],.slice (y.st.map iD),.int .i64 y.en]:=by unfold trD;rw [hz];rfl
   rw [e]
   refine ret_of rfl rfl (r0 ?_)
   refine Z3r ?_
   refine lhX rfl rfl rfl rfl ?_
   refine Z3r ?_
   refine lhX rfl rfl rfl rfl ?_
   refine Z3r ?_
   refine lhX rfl rfl rfl rfl ?_
   (refine Z3r ?_;(repeat first | (refine oRX hq.h rfl rfl rfl rfl rfl rfl rfl rfl ?_;refine Z3r ?_)))
   exact ez (ids:=[0]) rfl (kc (en:=y.en) rfl rfl) rfl rfl rfl
 · rw [hz] at hx
   replace hx:Ret VP (.fn 67) [.ptr 0 0 0 0,.d (.slice (bd.map Cm.d))] (sN ⟨[a,e1],bd.map Cm.d,os,T,b,ts⟩ (x0 [a,e1])) (.d (.bool ok)) (sA ⟨[a,e1],bd.map Cm.d,os,T,b,ts⟩ y c1 ch1):=hx
   have hq:=Hd.mk hx
   clear hx
   have e:trD y = .agg [.slice ((c1::ch1).map chD),.slice [ct y.m],.slice (y.st.map iD),.int .i64 y.en]:=by unfold trD;rw [hz]
   rw [e]
   refine ret_of rfl rfl (r0 ?_)
   refine Z3r ?_
   refine lhX rfl rfl rfl rfl ?_
   refine Z3r ?_
   refine lhX rfl rfl rfl rfl ?_
   refine Z3r ?_
   refine lhX rfl rfl rfl rfl ?_
   (refine Z3r ?_;(repeat first | (refine oRX hq.h rfl rfl rfl rfl rfl rfl rfl rfl ?_;refine Z3r ?_)))
   exact ez (ids:=[0]) rfl (ka (ch:=c1::ch1) (en:=y.en) rfl rfl rfl rfl) rfl rfl rfl
theorem tQ (a e1 e2:Ce) (bd:List Cm) (os:List Nat) (T:Ty) (b:Nat) (ts:List Nat) (KF:FOK ⟨[a,e1,e2],bd.map Cm.d,os,T,b,ts⟩) (hbd : ∀ c∈bd,Ok 3 W0 4 c) (h8:bd.length<=8) (ht:(Cm.tbs bd).length<=ts.length) (y:X) (hy:(Cm.exs [a,e1,e2] (Fix.q ⟨[a,e1,e2],bd.map Cm.d,os,T,b,ts⟩) bd (x0 [a,e1,e2])).1=y) :
 Ret VP (.fn 38) [.d (moD 0 [a,e1,e2] bd os T),.func 441 [.ptr 0 0 0 0] []] [some (rdB b ts 0)] (.d (.tuple [trD y,.int .i64 0])) [some (rdB b ts y.tk)]:=by
 have h1:=tf
 have hx:=(hX ⟨[a,e1,e2],bd.map Cm.d,os,T,b,ts⟩ KF 4).1 bd hbd h8 (x0 [a,e1,e2]) (nj ⟨[a,e1,e2],bd.map Cm.d,os,T,b,ts⟩) (by show 0+(Cm.tbs bd).length<=ts.length;omega) rfl
 dsimp only at hx
 rw [hy] at hx
 generalize (Cm.exs [a,e1,e2] (Fix.q ⟨[a,e1,e2],bd.map Cm.d,os,T,b,ts⟩) bd (x0 [a,e1,e2])).2=ok at hx
 have ca:=bI a (KF.hcs a (by simp)) 0
 have ce1:=bI e1 (KF.hcs e1 (by simp)) 0
 have ce2:=bI e2 (KF.hcs e2 (by simp)) 0
 rcases hz:y.ch with _ | ⟨c1,ch1⟩
 · rw [hz] at hx
   replace hx:Ret VP (.fn 67) [.ptr 0 0 0 0,.d (.slice (bd.map Cm.d))] (sN ⟨[a,e1,e2],bd.map Cm.d,os,T,b,ts⟩ (x0 [a,e1,e2])) (.d (.bool ok)) (sN ⟨[a,e1,e2],bd.map Cm.d,os,T,b,ts⟩ y):=hx
   have hq:=Hd.mk hx
   clear hx
   have e:trD y = .agg [.slice [],.slice [ct y.m],.slice (y.st.map iD),.int .i64 y.en]:=by unfold trD;rw [hz];rfl
   rw [e]
   refine ret_of rfl rfl (r0 ?_)
   refine Z3r ?_
   refine lhX rfl rfl rfl rfl ?_
   refine Z3r ?_
   refine lhX rfl rfl rfl rfl ?_
   refine Z3r ?_
   refine lhX rfl rfl rfl rfl ?_
   refine Z3r ?_
   refine lhX rfl rfl rfl rfl ?_
   (refine Z3r ?_;(repeat first | (refine oRX hq.h rfl rfl rfl rfl rfl rfl rfl rfl ?_;refine Z3r ?_)))
   exact ez (ids:=[0]) rfl (kc (en:=y.en) rfl rfl) rfl rfl rfl
 · rw [hz] at hx
   replace hx:Ret VP (.fn 67) [.ptr 0 0 0 0,.d (.slice (bd.map Cm.d))] (sN ⟨[a,e1,e2],bd.map Cm.d,os,T,b,ts⟩ (x0 [a,e1,e2])) (.d (.bool ok)) (sA ⟨[a,e1,e2],bd.map Cm.d,os,T,b,ts⟩ y c1 ch1):=hx
   have hq:=Hd.mk hx
   clear hx
   have e:trD y = .agg [.slice ((c1::ch1).map chD),.slice [ct y.m],.slice (y.st.map iD),.int .i64 y.en]:=by unfold trD;rw [hz]
   rw [e]
   refine ret_of rfl rfl (r0 ?_)
   refine Z3r ?_
   refine lhX rfl rfl rfl rfl ?_
   refine Z3r ?_
   refine lhX rfl rfl rfl rfl ?_
   refine Z3r ?_
   refine lhX rfl rfl rfl rfl ?_
   refine Z3r ?_
   refine lhX rfl rfl rfl rfl ?_
   (refine Z3r ?_;(repeat first | (refine oRX hq.h rfl rfl rfl rfl rfl rfl rfl rfl ?_;refine Z3r ?_)))
   exact ez (ids:=[0]) rfl (ka (ch:=c1::ch1) (en:=y.en) rfl rfl rfl rfl) rfl rfl rfl
theorem tP (a e1 e2 e3:Ce) (bd:List Cm) (os:List Nat) (T:Ty) (b:Nat) (ts:List Nat) (KF:FOK ⟨[a,e1,e2,e3],bd.map Cm.d,os,T,b,ts⟩) (hbd : ∀ c∈bd,Ok 4 W0 4 c) (h8:bd.length<=8) (ht:(Cm.tbs bd).length<=ts.length) (y:X) (hy:(Cm.exs [a,e1,e2,e3] (Fix.q ⟨[a,e1,e2,e3],bd.map Cm.d,os,T,b,ts⟩) bd (x0 [a,e1,e2,e3])).1=y) :
 Ret VP (.fn 38) [.d (moD 0 [a,e1,e2,e3] bd os T),.func 441 [.ptr 0 0 0 0] []] [some (rdB b ts 0)] (.d (.tuple [trD y,.int .i64 0])) [some (rdB b ts y.tk)]:=by
 have h1:=tf
 have hx:=(hX ⟨[a,e1,e2,e3],bd.map Cm.d,os,T,b,ts⟩ KF 4).1 bd hbd h8 (x0 [a,e1,e2,e3]) (nj ⟨[a,e1,e2,e3],bd.map Cm.d,os,T,b,ts⟩) (by show 0+(Cm.tbs bd).length<=ts.length;omega) rfl
 dsimp only at hx
 rw [hy] at hx
 generalize (Cm.exs [a,e1,e2,e3] (Fix.q ⟨[a,e1,e2,e3],bd.map Cm.d,os,T,b,ts⟩) bd (x0 [a,e1,e2,e3])).2=ok at hx
 have ca:=bI a (KF.hcs a (by simp)) 0
 have ce1:=bI e1 (KF.hcs e1 (by simp)) 0
 have ce2:=bI e2 (KF.hcs e2 (by simp)) 0
 have ce3:=bI e3 (KF.hcs e3 (by simp)) 0
 rcases hz:y.ch with _ | ⟨c1,ch1⟩
 · rw [hz] at hx
   replace hx:Ret VP (.fn 67) [.ptr 0 0 0 0,.d (.slice (bd.map Cm.d))] (sN ⟨[a,e1,e2,e3],bd.map Cm.d,os,T,b,ts⟩ (x0 [a,e1,e2,e3])) (.d (.bool ok)) (sN ⟨[a,e1,e2,e3],bd.map Cm.d,os,T,b,ts⟩ y):=hx
   have hq:=Hd.mk hx
   clear hx
   have e:trD y = .agg [.slice [],.slice [ct y.m],.slice (y.st.map iD),.int .i64 y.en]:=by unfold trD;rw [hz];rfl
   rw [e]
   refine ret_of rfl rfl (r0 ?_)
   refine Z3r ?_
   refine lhX rfl rfl rfl rfl ?_
   refine Z3r ?_
   refine lhX rfl rfl rfl rfl ?_
   refine Z3r ?_
   refine lhX rfl rfl rfl rfl ?_
   refine Z3r ?_
   refine lhX rfl rfl rfl rfl ?_
   refine Z3r ?_
   refine lhX rfl rfl rfl rfl ?_
   (refine Z3r ?_;(repeat first | (refine oRX hq.h rfl rfl rfl rfl rfl rfl rfl rfl ?_;refine Z3r ?_)))
   exact ez (ids:=[0]) rfl (kc (en:=y.en) rfl rfl) rfl rfl rfl
 · rw [hz] at hx
   replace hx:Ret VP (.fn 67) [.ptr 0 0 0 0,.d (.slice (bd.map Cm.d))] (sN ⟨[a,e1,e2,e3],bd.map Cm.d,os,T,b,ts⟩ (x0 [a,e1,e2,e3])) (.d (.bool ok)) (sA ⟨[a,e1,e2,e3],bd.map Cm.d,os,T,b,ts⟩ y c1 ch1):=hx
   have hq:=Hd.mk hx
   clear hx
   have e:trD y = .agg [.slice ((c1::ch1).map chD),.slice [ct y.m],.slice (y.st.map iD),.int .i64 y.en]:=by unfold trD;rw [hz]
   rw [e]
   refine ret_of rfl rfl (r0 ?_)
   refine Z3r ?_
   refine lhX rfl rfl rfl rfl ?_
   refine Z3r ?_
   refine lhX rfl rfl rfl rfl ?_
   refine Z3r ?_
   refine lhX rfl rfl rfl rfl ?_
   refine Z3r ?_
   refine lhX rfl rfl rfl rfl ?_
   refine Z3r ?_
   refine lhX rfl rfl rfl rfl ?_
   (refine Z3r ?_;(repeat first | (refine oRX hq.h rfl rfl rfl rfl rfl rfl rfl rfl ?_;refine Z3r ?_)))
   exact ez (ids:=[0]) rfl (ka (ch:=c1::ch1) (en:=y.en) rfl rfl rfl rfl) rfl rfl rfl
theorem po {cs:List Ce} (h1:1<=cs.length) (h4:cs.length<=4) (bd:List Cm) (os:List Nat) (T:Ty) (b:Nat) (ts:List Nat) (KF:FOK ⟨cs,bd.map Cm.d,os,T,b,ts⟩) (hbd : ∀ c∈bd,Ok cs.length W0 4 c) (h8:bd.length<=8) (ht:(Cm.tbs bd).length<=ts.length) (y:X) (hy:(Cm.exs cs (Fix.q ⟨cs,bd.map Cm.d,os,T,b,ts⟩) bd (x0 cs)).1=y) :
 Ret VP (.fn 38) [.d (moD 0 cs bd os T),.func 441 [.ptr 0 0 0 0] []] [some (rdB b ts 0)] (.d (.tuple [trD y,.int .i64 0])) [some (rdB b ts y.tk)]:=by
 match cs,h1,h4,KF,hbd,hy with
 | [a],_,_,KF,hbd,hy=>exact tS a bd os T b ts KF hbd h8 ht y hy
 | [a,c],_,_,KF,hbd,hy=>exact tR a c bd os T b ts KF hbd h8 ht y hy
 | [a,c,d],_,_,KF,hbd,hy=>exact tQ a c d bd os T b ts KF hbd h8 ht y hy
 | [a,c,d,e],_,_,KF,hbd,hy=>exact tP a c d e bd os T b ts KF hbd h8 ht y hy
noncomputable def runX (cs:List Ce) (l:List Cm) (b:Nat) (ts:List Nat):X:=(Cm.exs cs (fun n=>mkRat (ts.getD n 0:Nat) b) l (x0 cs)).1
theorem jw {cs:List Ce} {l:List Cm} {os:List Nat} {es:List Ce} (G:GoodM cs l os es) (b:Nat) (ts:List Nat) (hb1:1<=b) (hb:b<=1000) (hall : ∀ t∈ts,t < b) (h6:ts.length<=6) (ht:(Cm.tbs (Cm.nums l 0).1).length<=ts.length) :
 Ret VP (.fn 434) [.d (moD 0 cs (Cm.nums l 0).1 os (dY es)),.d (.int .i64 b),.d (.slice (ts.map oD))] [] (.d (.tuple [trD (runX cs (Cm.nums l 0).1 b ts),.int .i64 (runX cs (Cm.nums l 0).1 b ts).tk,.int .i64 0])) []:=by
 have h1:=rN G b hb1 hb
 have KF:FOK ⟨cs,(Cm.nums l 0).1.map Cm.d,os,dY es,b,ts⟩:=⟨G.hcs,hb,hall,h6⟩
 have h2:=po G.h1 G.h4 (Cm.nums l 0).1 os (dY es) b ts KF G.num.hl G.num.h8 ht (runX cs (Cm.nums l 0).1 b ts) rfl
 generalize runX cs (Cm.nums l 0).1 b ts=y at h2 ⊢
 unfold trD at h2 ⊢
 have h3:Ret VP (.fn 440) [.d (moD 0 cs (Cm.nums l 0).1 os (dY es)),.func 441 [.ptr 0 0 0 0] []] [some (rdB b ts 0)] (.d (.tuple [.agg [.slice (y.ch.map chD),.slice [ct y.m],.slice (y.st.map iD),.int .i64 y.en],.int .i64 0])) [some (rdB b ts y.tk)]:=by
  refine ret_of rfl rfl (r0 ?_)
  refine Z1 ?_
  rfl
 have h4:Ret VP (.fn 437) [.d (moD 0 cs (Cm.nums l 0).1 os (dY es)),.d (.int .i64 b),.d (.slice (ts.map oD))] [] (.d (.tuple [.agg [.slice (y.ch.map chD),.slice [ct y.m],.slice (y.st.map iD),.int .i64 y.en],.int .i64 y.tk,.int .i64 0])) []:=by
  refine ret_of rfl rfl (r0 ?_)
  refine Z1 ?_
  rfl
 refine ret_of rfl rfl (r0 ?_)
 refine Z1 ?_
 rfl
theorem uT (l:List Nat) (hl:l.length<=1000):Ret VP (.fn 260) [.d (nat l),.d (nat l)] [] (.d (.bool true)) []:=by
 have tn:((((l.map u32).length:Nat):Int) != (((l.map u32).length:Nat):Int))=false:=by simp
 unfold nat
 refine ret_of rfl rfl (r0 ?_)
 refine Z1 ?_
 refine af rfl ?_
 refine cB (fun i=>[.d (.slice (l.map u32)),.d (.slice (l.map u32)),.d (.int .i64 i)]) (fun _=>[]) l.length (fun i hi hn => ?_) ?_
 · have hwi:=ac i (by omega)
   have ht:=dd (g:=u32) hi
   have hg:(l.map u32)[i]?=some (u32 l[i]):=by rw [List.getElem?_map,List.getElem?_eq_getElem hi];rfl
   have hx:(((l[i]:Nat):Int) != ((l[i]:Nat):Int))=false:=by simp
   unfold ah
   refine Z1 ?_
   rw [hwi]
   exact af rfl hn
 · have hf:=de (g:=u32) (l:=l)
   unfold ah
   refine Z1 ?_
   rfl
theorem Ie (s:Bool) (a b:Nat):Ret VP (.fn 242) [.d (.agg [.bool s,num a,num b]),.d (.agg [.bool s,num a,num b])] [] (.d (.bool true)) []:=by
 have h1:=uT (lim a) (by have:=dy a;omega)
 have h2:=uT (lim b) (by have:=dy b;omega)
 have hs:(s==s)=true:=by simp
 unfold num
 refine ret_of rfl rfl (r0 ?_)
 refine Z1 ?_
 rfl
theorem Id (q:Rat):Ret VP (.fn 209) [.d (.slice [ct q]),.d (.slice [ct q])] [] (.d (.bool true)) []:=by
 have h:=Ie (decide (q.num < 0)) q.num.natAbs q.den
 unfold ct
 refine ret_of rfl rfl (r0 ?_)
 refine Z2 ?_
 rfl
@[reducible] def trB (ch:List (Nat×Nat)) (m:Rat) (st:List Int) (en:Int):Option Blk:=some (.rows 0 false 4 [[.d (.slice (ch.map chD)),.d (.slice [ct m]),.d (.slice (st.map iD)),.d (.int .i64 en)]])
theorem Ic (y:X) (h1:y.ch.length<=1000) (h2:y.st.length<=1000):Ret VP (.fn 363) [.d (trD y),.d (trD y)] [] (.d (.bool true)) []:=by
 obtain ⟨ch,m,st,en,tk⟩:=y
 have h:=Id m
 have t1:((((ch.map chD).length:Nat):Int) != (((ch.map chD).length:Nat):Int))=false:=by simp
 have t2:((((st.map iD).length:Nat):Int) != (((st.map iD).length:Nat):Int))=false:=by simp
 have t3:(en != en)=false:=by simp
 unfold trD
 refine ret_of rfl rfl (r0 ?_)
 refine Z1 ?_
 refine af rfl ?_
 refine cB (fun i=>[.ptr 0 0 0 0,.ptr 1 0 0 0,.d (.int .i64 i)]) (fun _=>[trB ch m st en,trB ch m st en]) ch.length (fun i hi hn => ?_) ?_
 · have hwi:=ac i (by have:ch.length<=1000:=h1;omega)
   have ht:=dd (g:=chD) hi
   have hg:(ch.map chD)[i]?=some (chD ch[i]):=by rw [List.getElem?_map,List.getElem?_eq_getElem hi];rfl
   have hx:(!(((ch[i].1:Nat):Int)==((ch[i].1:Nat):Int)&&(((ch[i].2:Nat):Int)==((ch[i].2:Nat):Int)&&true)))=false:=by simp
   unfold ah
   refine Z1 ?_
   rw [hwi]
   exact af rfl hn
 · have hf:=de (g:=chD) (l:=ch)
   unfold ah
   refine Z1 ?_
   refine af rfl ?_
   refine cB (fun i=>[.ptr 0 0 0 0,.ptr 1 0 0 0,.d (.int .i64 i)]) (fun _=>[trB ch m st en,trB ch m st en]) st.length (fun i hi hn => ?_) ?_
   · have hwi:=ac i (by have:st.length<=1000:=h2;omega)
     have ht:=dd (g:=iD) hi
     have hg:(st.map iD)[i]?=some (iD st[i]):=by rw [List.getElem?_map,List.getElem?_eq_getElem hi];rfl
     have hx:(st[i] != st[i])=false:=by simp
     unfold ah
     refine Z1 ?_
     rw [hwi]
     exact af rfl hn
   · have hf2:=de (g:=iD) (l:=st)
     unfold ah
     refine Z1 ?_
     rfl
end Go.Proofs.YtemffeblbmimfaaGreat
