/- Modules in general: runs, step by step. -/
import Derived.Test.YtemffeblbmimfaaGreatA08
import Derived.Test.YtemffeblbmimfaaGreatA13
import Derived.Test.YtemffeblbmimfaaGreatA06
set_option linter.unusedSimpArgs false
set_option linter.unusedVariables false
set_option linter.unnecessarySimpa false
namespace Go.Proofs.YtemffeblbmimfaaGreat
open Go.IntWalk
attribute [local irreducible] au
set_option maxHeartbeats 8000000
set_option maxRecDepth 100000
theorem wI (F:Fix) (hcs : ∀ c∈F.cs,c.Ok) (x:X) (hst:x.st.length=F.cs.length) (l:List D) (i:Nat) (hi:i < l.length) (hl:l.length < 1000) (c0:Nat×Nat) (ch:List (Nat×Nat)) (c1:Nat×Nat) (ch1:List (Nat×Nat)) (y:X) (f:Fo) (a b:List D) (hf:cU F.cs.length f) (hg:l[i]?=some (cmD 3 0 0 f .z a b [] [])) (h0:f.ev x.st≠0) (hr:Ret VP (.fn 67) [.ptr 0 0 0 0,.d (.slice a)] (sC F x c0 ch) (.d (.bool true)) (sC F y c1 ch1)) {K:List Fr} {Q:Out->Env->aa->Prop} (h:ah VP 3 [0,21,22,23] ag [.ptr 0 0 0 0,.d (.slice l),.d (.int .i64 (l.length:Nat)),.d (.int .i64 (i+1:Nat))] (sA F y c1 ch1) K Q):ah VP 3 [0,21,22,23] ag [.ptr 0 0 0 0,.d (.slice l),.d (.int .i64 (l.length:Nat)),.d (.int .i64 i)] (sA F x c0 ch) K Q:=by
 have hwi:=ac i (by omega)
 have ht:decide ((i:Int) < ((l.length:Nat):Int))=true:=decide_eq_true (by omega)
 have hE:=aE F.cs.length x.st hst f hf.1 (by have:=hf.2.1;omega) (by have:=hf.2.2;omega)
 have t0:(f.ev x.st != 0)=true:=by simpa using h0
 unfold ah
 (refine Z3r ?_;(repeat first | (refine fw (bR hE (aK rfl (by simp) (bM _)) rfl rfl (o0 ⟨rfl,rfl⟩)) ?_;refine Z3r ?_) | (refine oRX hr rfl rfl rfl rfl rfl rfl rfl rfl ?_;refine Z3r ?_)))
 rw [hwi]
 refine hdX rfl rfl rfl rfl ?_
 exact h
theorem tG (F:Fix) (hcs : ∀ c∈F.cs,c.Ok) (x:X) (hst:x.st.length=F.cs.length) (l:List D) (i:Nat) (hi:i < l.length) (hl:l.length < 1000) (c0:Nat×Nat) (ch:List (Nat×Nat)) (c1:Nat×Nat) (ch1:List (Nat×Nat)) (y:X) (f:Fo) (a b:List D) (hf:cU F.cs.length f) (hg:l[i]?=some (cmD 3 0 0 f .z a b [] [])) (h0:f.ev x.st≠0) (hr:Ret VP (.fn 67) [.ptr 0 0 0 0,.d (.slice a)] (sC F x c0 ch) (.d (.bool false)) (sC F y c1 ch1)) {K:List Fr} : ah VP 3 [0,21,22,23] ag [.ptr 0 0 0 0,.d (.slice l),.d (.int .i64 (l.length:Nat)),.d (.int .i64 i)] (sA F x c0 ch) K (fun o e s=>fin f67.keep 3 f67.res o e s=some (.d (.bool false),(sA F y c1 ch1))):=by
 have hwi:=ac i (by omega)
 have ht:decide ((i:Int) < ((l.length:Nat):Int))=true:=decide_eq_true (by omega)
 have hE:=aE F.cs.length x.st hst f hf.1 (by have:=hf.2.1;omega) (by have:=hf.2.2;omega)
 have t0:(f.ev x.st != 0)=true:=by simpa using h0
 unfold ah
 (refine Z3r ?_;(repeat first | (refine fw (bR hE (aK rfl (by simp) (bM _)) rfl rfl (o0 ⟨rfl,rfl⟩)) ?_;refine Z3r ?_) | (refine oRX hr rfl rfl rfl rfl rfl rfl rfl rfl ?_;refine Z3r ?_)))
 exact kG (xs:=[.d (.bool false)]) rfl rfl rfl rfl
theorem wJ (F:Fix) (hcs : ∀ c∈F.cs,c.Ok) (x:X) (hst:x.st.length=F.cs.length) (l:List D) (i:Nat) (hi:i < l.length) (hl:l.length < 1000) (c0:Nat×Nat) (ch:List (Nat×Nat)) (c1:Nat×Nat) (ch1:List (Nat×Nat)) (y:X) (f:Fo) (a b:List D) (hf:cU F.cs.length f) (hg:l[i]?=some (cmD 3 0 0 f .z a b [] [])) (h0:f.ev x.st=0) (hr:Ret VP (.fn 67) [.ptr 0 0 0 0,.d (.slice b)] (sC F x c0 ch) (.d (.bool true)) (sC F y c1 ch1)) {K:List Fr} {Q:Out->Env->aa->Prop} (h:ah VP 3 [0,21,22,23] ag [.ptr 0 0 0 0,.d (.slice l),.d (.int .i64 (l.length:Nat)),.d (.int .i64 (i+1:Nat))] (sA F y c1 ch1) K Q):ah VP 3 [0,21,22,23] ag [.ptr 0 0 0 0,.d (.slice l),.d (.int .i64 (l.length:Nat)),.d (.int .i64 i)] (sA F x c0 ch) K Q:=by
 have hwi:=ac i (by omega)
 have ht:decide ((i:Int) < ((l.length:Nat):Int))=true:=decide_eq_true (by omega)
 have hE:=aE F.cs.length x.st hst f hf.1 (by have:=hf.2.1;omega) (by have:=hf.2.2;omega)
 have t0:(f.ev x.st != 0)=false:=by simpa using h0
 unfold ah
 (refine Z3r ?_;(repeat first | (refine fw (bR hE (aK rfl (by simp) (bM _)) rfl rfl (o0 ⟨rfl,rfl⟩)) ?_;refine Z3r ?_) | (refine oRX hr rfl rfl rfl rfl rfl rfl rfl rfl ?_;refine Z3r ?_)))
 rw [hwi]
 refine hdX rfl rfl rfl rfl ?_
 exact h
theorem tH (F:Fix) (hcs : ∀ c∈F.cs,c.Ok) (x:X) (hst:x.st.length=F.cs.length) (l:List D) (i:Nat) (hi:i < l.length) (hl:l.length < 1000) (c0:Nat×Nat) (ch:List (Nat×Nat)) (c1:Nat×Nat) (ch1:List (Nat×Nat)) (y:X) (f:Fo) (a b:List D) (hf:cU F.cs.length f) (hg:l[i]?=some (cmD 3 0 0 f .z a b [] [])) (h0:f.ev x.st=0) (hr:Ret VP (.fn 67) [.ptr 0 0 0 0,.d (.slice b)] (sC F x c0 ch) (.d (.bool false)) (sC F y c1 ch1)) {K:List Fr} : ah VP 3 [0,21,22,23] ag [.ptr 0 0 0 0,.d (.slice l),.d (.int .i64 (l.length:Nat)),.d (.int .i64 i)] (sA F x c0 ch) K (fun o e s=>fin f67.keep 3 f67.res o e s=some (.d (.bool false),(sA F y c1 ch1))):=by
 have hwi:=ac i (by omega)
 have ht:decide ((i:Int) < ((l.length:Nat):Int))=true:=decide_eq_true (by omega)
 have hE:=aE F.cs.length x.st hst f hf.1 (by have:=hf.2.1;omega) (by have:=hf.2.2;omega)
 have t0:(f.ev x.st != 0)=false:=by simpa using h0
 unfold ah
 (refine Z3r ?_;(repeat first | (refine fw (bR hE (aK rfl (by simp) (bM _)) rfl rfl (o0 ⟨rfl,rfl⟩)) ?_;refine Z3r ?_) | (refine oRX hr rfl rfl rfl rfl rfl rfl rfl rfl ?_;refine Z3r ?_)))
 exact kG (xs:=[.d (.bool false)]) rfl rfl rfl rfl
theorem wG (F:Fix) (hcs : ∀ c∈F.cs,c.Ok) (x:X) (hst:x.st.length=F.cs.length) (l:List D) (i:Nat) (hi:i < l.length) (hl:l.length < 1000) (c0:Nat×Nat) (ch:List (Nat×Nat)) (c1:Nat×Nat) (ch1:List (Nat×Nat)) (y:X) (f:Fo) (a b:List D) (hf:cU F.cs.length f) (hg:l[i]?=some (cmD 3 0 0 f .z a b [] [])) (h0:f.ev x.st≠0) (hr:Ret VP (.fn 67) [.ptr 0 0 0 0,.d (.slice a)] (sC F x c0 ch) (.d (.bool true)) (sC F y c1 ch1)) {K:List Fr} {Q:Out->Env->aa->Prop} (h:ah VP 4 [0,21,22,23] ag [.ptr 0 0 0 0,.d (.slice l),.d (.int .i64 (l.length:Nat)),.d (.int .i64 (i+1:Nat))] (sC F y c1 ch1) K Q):ah VP 4 [0,21,22,23] ag [.ptr 0 0 0 0,.d (.slice l),.d (.int .i64 (l.length:Nat)),.d (.int .i64 i)] (sC F x c0 ch) K Q:=by
 have hwi:=ac i (by omega)
 have ht:decide ((i:Int) < ((l.length:Nat):Int))=true:=decide_eq_true (by omega)
 have hE:=aE F.cs.length x.st hst f hf.1 (by have:=hf.2.1;omega) (by have:=hf.2.2;omega)
 have t0:(f.ev x.st != 0)=true:=by simpa using h0
 unfold ah
 (refine Z3r ?_;(repeat first | (refine fw (bR hE (aK rfl (by simp) (bM _)) rfl rfl (o0 ⟨rfl,rfl⟩)) ?_;refine Z3r ?_) | (refine oRX hr rfl rfl rfl rfl rfl rfl rfl rfl ?_;refine Z3r ?_)))
 rw [hwi]
 refine hdX rfl rfl rfl rfl ?_
 exact h
theorem tE (F:Fix) (hcs : ∀ c∈F.cs,c.Ok) (x:X) (hst:x.st.length=F.cs.length) (l:List D) (i:Nat) (hi:i < l.length) (hl:l.length < 1000) (c0:Nat×Nat) (ch:List (Nat×Nat)) (c1:Nat×Nat) (ch1:List (Nat×Nat)) (y:X) (f:Fo) (a b:List D) (hf:cU F.cs.length f) (hg:l[i]?=some (cmD 3 0 0 f .z a b [] [])) (h0:f.ev x.st≠0) (hr:Ret VP (.fn 67) [.ptr 0 0 0 0,.d (.slice a)] (sC F x c0 ch) (.d (.bool false)) (sC F y c1 ch1)) {K:List Fr} : ah VP 4 [0,21,22,23] ag [.ptr 0 0 0 0,.d (.slice l),.d (.int .i64 (l.length:Nat)),.d (.int .i64 i)] (sC F x c0 ch) K (fun o e s=>fin f67.keep 4 f67.res o e s=some (.d (.bool false),(sC F y c1 ch1))):=by
 have hwi:=ac i (by omega)
 have ht:decide ((i:Int) < ((l.length:Nat):Int))=true:=decide_eq_true (by omega)
 have hE:=aE F.cs.length x.st hst f hf.1 (by have:=hf.2.1;omega) (by have:=hf.2.2;omega)
 have t0:(f.ev x.st != 0)=true:=by simpa using h0
 unfold ah
 (refine Z3r ?_;(repeat first | (refine fw (bR hE (aK rfl (by simp) (bM _)) rfl rfl (o0 ⟨rfl,rfl⟩)) ?_;refine Z3r ?_) | (refine oRX hr rfl rfl rfl rfl rfl rfl rfl rfl ?_;refine Z3r ?_)))
 exact kG (xs:=[.d (.bool false)]) rfl rfl rfl rfl
theorem wH (F:Fix) (hcs : ∀ c∈F.cs,c.Ok) (x:X) (hst:x.st.length=F.cs.length) (l:List D) (i:Nat) (hi:i < l.length) (hl:l.length < 1000) (c0:Nat×Nat) (ch:List (Nat×Nat)) (c1:Nat×Nat) (ch1:List (Nat×Nat)) (y:X) (f:Fo) (a b:List D) (hf:cU F.cs.length f) (hg:l[i]?=some (cmD 3 0 0 f .z a b [] [])) (h0:f.ev x.st=0) (hr:Ret VP (.fn 67) [.ptr 0 0 0 0,.d (.slice b)] (sC F x c0 ch) (.d (.bool true)) (sC F y c1 ch1)) {K:List Fr} {Q:Out->Env->aa->Prop} (h:ah VP 4 [0,21,22,23] ag [.ptr 0 0 0 0,.d (.slice l),.d (.int .i64 (l.length:Nat)),.d (.int .i64 (i+1:Nat))] (sC F y c1 ch1) K Q):ah VP 4 [0,21,22,23] ag [.ptr 0 0 0 0,.d (.slice l),.d (.int .i64 (l.length:Nat)),.d (.int .i64 i)] (sC F x c0 ch) K Q:=by
 have hwi:=ac i (by omega)
 have ht:decide ((i:Int) < ((l.length:Nat):Int))=true:=decide_eq_true (by omega)
 have hE:=aE F.cs.length x.st hst f hf.1 (by have:=hf.2.1;omega) (by have:=hf.2.2;omega)
 have t0:(f.ev x.st != 0)=false:=by simpa using h0
 unfold ah
 (refine Z3r ?_;(repeat first | (refine fw (bR hE (aK rfl (by simp) (bM _)) rfl rfl (o0 ⟨rfl,rfl⟩)) ?_;refine Z3r ?_) | (refine oRX hr rfl rfl rfl rfl rfl rfl rfl rfl ?_;refine Z3r ?_)))
 rw [hwi]
 refine hdX rfl rfl rfl rfl ?_
 exact h
theorem tF (F:Fix) (hcs : ∀ c∈F.cs,c.Ok) (x:X) (hst:x.st.length=F.cs.length) (l:List D) (i:Nat) (hi:i < l.length) (hl:l.length < 1000) (c0:Nat×Nat) (ch:List (Nat×Nat)) (c1:Nat×Nat) (ch1:List (Nat×Nat)) (y:X) (f:Fo) (a b:List D) (hf:cU F.cs.length f) (hg:l[i]?=some (cmD 3 0 0 f .z a b [] [])) (h0:f.ev x.st=0) (hr:Ret VP (.fn 67) [.ptr 0 0 0 0,.d (.slice b)] (sC F x c0 ch) (.d (.bool false)) (sC F y c1 ch1)) {K:List Fr} : ah VP 4 [0,21,22,23] ag [.ptr 0 0 0 0,.d (.slice l),.d (.int .i64 (l.length:Nat)),.d (.int .i64 i)] (sC F x c0 ch) K (fun o e s=>fin f67.keep 4 f67.res o e s=some (.d (.bool false),(sC F y c1 ch1))):=by
 have hwi:=ac i (by omega)
 have ht:decide ((i:Int) < ((l.length:Nat):Int))=true:=decide_eq_true (by omega)
 have hE:=aE F.cs.length x.st hst f hf.1 (by have:=hf.2.1;omega) (by have:=hf.2.2;omega)
 have t0:(f.ev x.st != 0)=false:=by simpa using h0
 unfold ah
 (refine Z3r ?_;(repeat first | (refine fw (bR hE (aK rfl (by simp) (bM _)) rfl rfl (o0 ⟨rfl,rfl⟩)) ?_;refine Z3r ?_) | (refine oRX hr rfl rfl rfl rfl rfl rfl rfl rfl ?_;refine Z3r ?_)))
 exact kG (xs:=[.d (.bool false)]) rfl rfl rfl rfl
end Go.Proofs.YtemffeblbmimfaaGreat
namespace Go.Proofs.YtemffeblbmimfaaGreat
open Go.IntWalk
attribute [local irreducible] au
set_option maxHeartbeats 4000000
set_option maxRecDepth 100000
structure FOK (F:Fix):Prop where
 hcs : ∀ c∈F.cs,c.Ok
 hb:F.b<=1000
 hall : ∀ t∈F.ts,t < F.b
 ht6:F.ts.length<=6
structure InvX (F:Fix) (x:X):Prop where
 hst:x.st.length=F.cs.length
 hm0:x.m≠0
 hm1:x.m.num.natAbs<=8 ^ x.tk
 hm2:x.m.den<=8 ^ x.tk
 hch:x.ch.length=x.tk
theorem InvX.fit {F:Fix} {x:X} (I:InvX F x) (h:x.tk<=5):fit 65536 x.m:=by
 have h1:=I.hm1
 have h2:=I.hm2
 have h3:8 ^ x.tk<=8 ^ 5:=Nat.pow_le_pow_right (by decide) h
 have h4:(8:Nat) ^ 5=32768:=by decide
 exact ⟨by omega,by omega⟩
theorem vX {F:Fix} (K:FOK F) {n:Nat} (hn:n < F.ts.length) (w:List D) (hw:w∈W0):Wn (w.getD (pk w (F.q n)) p0):=by
 obtain ⟨_,p,hp,hwn⟩:=hH 0 0 0 F.b F.ts n K.hb K.hall (by have:=K.ht6;omega) hn w hw
 change w[pk w (F.q n)]?=some p at hp
 rw [List.getD_eq_getElem?_getD,hp];exact hwn
theorem kE {F:Fix} (K:FOK F) {x:X} (I:InvX F x) (hn:x.tk < F.ts.length) (w:List D) (hw:w∈W0) (ch:List (Nat×Nat)) (hch:ch.length=x.tk+1) (v:Nat) (z en:Int):InvX F { ch:=ch,m:=x.m*val2 (w.getD (pk w (F.q x.tk)) p0),st:=x.st.set v z,en:=en,tk:=x.tk+1 } := by
 have ⟨_,h0,h8⟩:=(vX K hn w hw).val
 generalize val2 (w.getD (pk w (F.q x.tk)) p0)=r at h0 h8
 have hp:=lB x.m r
 refine ⟨by simpa using I.hst,?_,?_,?_,hch⟩
 · intro h
   have h:=h
   rcases Rat.mul_eq_zero.1 h with h | h
   · exact I.hm0 h
   · exact h0 h
 · show (x.m*r).num.natAbs<=8 ^ (x.tk+1)
   rw [Nat.pow_succ]
   exact Nat.le_trans hp.1 (Nat.mul_le_mul I.hm1 h8.1)
 · show (x.m*r).den<=8 ^ (x.tk+1)
   rw [Nat.pow_succ]
   exact Nat.le_trans hp.2 (Nat.mul_le_mul I.hm2 h8.2)
structure AftX (F:Fix) (x y:X) (n:Nat):Prop where
 inv:InvX F y
 lo:x.tk<=y.tk
 hi:y.tk<=x.tk+n
theorem iU {F:Fix} (K:FOK F) : ∀ (h:Nat) (l:List Cm),(∀ c∈l,Ok F.cs.length W0 h c) -> ∀ x,InvX F x->x.tk+(Cm.tbs l).length<=F.ts.length->AftX F x (Cm.exs F.cs F.q l x).1 (Cm.tbs l).length:=by
 intro h
 induction h with
 | zero=>intro l hl x I _;rw [b5 hl];exact ⟨I,Nat.le_refl _,Nat.le_add_right _ _⟩
 | succ h ih =>
   have hc : ∀ c,Ok F.cs.length W0 (h+1) c -> ∀ x,InvX F x->x.tk+c.tb.length<=F.ts.length->AftX F x (c.ex F.cs F.q x).1 c.tb.length:=by
    intro c hc x I hb
    cases hc with
    | set o f ho hf=>simp only [Cm.ex,if_true];exact ⟨⟨by simpa using I.hst,I.hm0,I.hm1,I.hm2,I.hch⟩,Nat.le_refl _,Nat.le_add_right _ _⟩
    | set2 o u f g ho hu hn hf hg=>simp only [Cm.ex,if_true];exact ⟨⟨by simpa using I.hst,I.hm0,I.hm1,I.hm2,I.hch⟩,Nat.le_refl _,Nat.le_add_right _ _⟩
    | draw v s lo w hv hs hw h1 h2 =>
      have e:(Cm.mk 2 v s .z (.tab lo w) [] [] [] []).tb=[dsD 1 lo w]:=rfl
      rw [e] at hb ⊢
      have hb':x.tk < F.ts.length:=by simp at hb;omega
      have e1:((2:Int)=1)=False:=by simp
      simp only [Cm.ex,e1,if_false,if_true,Di.w]
      refine ⟨kE K I hb' w hw _ (by simp [I.hch]) _ _ _,?_,?_⟩<;>simp
    | iff f a b hf ha hb' ca cb =>
      have e:(Cm.mk 3 0 0 f .z a b [] []).tb=Cm.tbs a++Cm.tbs b:=by simp [Cm.tb]
      rw [e,List.length_append] at hb ⊢
      have e1:((3:Int)=1)=False:=by simp
      have e2:((3:Int)=2)=False:=by simp
      simp only [Cm.ex,e1,e2,if_false,if_true]
      split
      · have:=ih b cb x I (by omega);exact ⟨this.inv,this.lo,by have:=this.hi;omega⟩
      · have:=ih a ca x I (by omega);exact ⟨this.inv,this.lo,by have:=this.hi;omega⟩
    | obs f hf =>
      have e1:((4:Int)=1)=False:=by simp
      have e2:((4:Int)=2)=False:=by simp
      have e3:((4:Int)=3)=False:=by simp
      simp only [Cm.ex,e1,e2,e3,if_false,if_true]
      split<;>exact ⟨⟨I.hst,I.hm0,I.hm1,I.hm2,I.hch⟩,Nat.le_refl _,Nat.le_add_right _ _⟩
    | cut =>
      have e1:((5:Int)=1)=False:=by simp
      have e2:((5:Int)=2)=False:=by simp
      have e3:((5:Int)=3)=False:=by simp
      have e4:((5:Int)=4)=False:=by simp
      simp only [Cm.ex,e1,e2,e3,e4,if_false,if_true]
      exact ⟨⟨I.hst,I.hm0,I.hm1,I.hm2,I.hch⟩,Nat.le_refl _,Nat.le_add_right _ _⟩
   intro l
   induction l with
   | nil=>intro _ x I _;exact ⟨I,Nat.le_refl _,Nat.le_add_right _ _⟩
   | cons c l ihl =>
     intro hl x I hb
     simp only [Cm.tbs,List.length_append] at hb ⊢
     have h1:=hc c (hl c (by simp)) x I (by omega)
     simp only [Cm.exs]
     have hh:=h1.hi
     split
     · have h2:=ihl (fun c hc=>hl c (by simp [hc])) _ h1.inv (by omega)
       exact ⟨h2.inv,by have:=h1.lo;have:=h2.lo;omega,by have:=h2.hi;omega⟩
     · exact ⟨h1.inv,h1.lo,by show (Cm.ex F.cs F.q c x).1.tk<=_;omega⟩
def SN (F:Fix) (x:X):List (Nat×Nat)->aa
 | []=>sN F x
 | c::l=>sA F x c l
def SC (F:Fix) (x:X):List (Nat×Nat)->aa
 | []=>[]
 | c::l=>sC F x c l
theorem rp {cs:List Ce} {q:Nat->Rat} (o:Nat) (f:Fo) (x:X):(Cm.mk 1 0 0 .z .z [] [] [f] [o]).ex cs q x=({ x with st:=x.st.set o (clA cs o (f.ev x.st)) },true):=by simp only [Cm.ex,if_true]
theorem rn {cs:List Ce} {q:Nat->Rat} (o u:Nat) (f g:Fo) (x:X):(Cm.mk 1 0 0 .z .z [] [] [f,g] [o,u]).ex cs q x=({ x with st:=(x.st.set o (clA cs o (f.ev x.st))).set u (clA cs u (g.ev x.st)) },true):=by simp only [Cm.ex,if_true]
theorem rq {cs:List Ce} {q:Nat->Rat} (v s:Nat) (lo:Int) (w:List D) (x:X):(Cm.mk 2 v s .z (.tab lo w) [] [] [] []).ex cs q x=({ ch:=x.ch++[(s,pk w (q x.tk))],m:=x.m*val2 (w.getD (pk w (q x.tk)) p0),st:=x.st.set v (clA cs v (lo+(pk w (q x.tk):Nat))),en:=x.en,tk:=x.tk+1 },true):=by
 have e1:((2:Int)=1)=False:=by simp
 simp only [Cm.ex,e1,if_false,if_true,Di.w,Di.lo,Int.toNat_natCast]
theorem u7 {cs:List Ce} {q:Nat->Rat} (f:Fo) (a b:List Cm) (x:X):(Cm.mk 3 0 0 f .z a b [] []).ex cs q x=if f.ev x.st=0 then Cm.exs cs q b x else Cm.exs cs q a x:=by
 have e1:((3:Int)=1)=False:=by simp
 have e2:((3:Int)=2)=False:=by simp
 simp only [Cm.ex,e1,e2,if_false,if_true]
theorem u6 {cs:List Ce} {q:Nat->Rat} (f:Fo) (x:X):(Cm.mk 4 0 0 f .z [] [] [] []).ex cs q x=if f.ev x.st=0 then ({ x with en:=2 },false) else (x,true):=by
 have e1:((4:Int)=1)=False:=by simp
 have e2:((4:Int)=2)=False:=by simp
 have e3:((4:Int)=3)=False:=by simp
 simp only [Cm.ex,e1,e2,e3,if_false,if_true]
theorem u9 {cs:List Ce} {q:Nat->Rat} (x:X):(Cm.mk 5 0 0 .z .z [] [] [] []).ex cs q x=({ x with en:=3 },false):=by
 have e1:((5:Int)=1)=False:=by simp
 have e2:((5:Int)=2)=False:=by simp
 have e3:((5:Int)=3)=False:=by simp
 have e4:((5:Int)=4)=False:=by simp
 simp only [Cm.ex,e1,e2,e3,e4,if_false]
theorem qQ {l pre suf:List Cm} {c:Cm} (h:l=pre++c::suf):(l.map Cm.d)[pre.length]?=some c.d:=by
 rw [h,List.getElem?_map,List.getElem?_append_right (Nat.le_refl _),Nat.sub_self];rfl
abbrev GN (F:Fix) (y:X) (ok:Bool) (ch:List (Nat×Nat)):Out->Env->aa->Prop:=fun o e s=>fin f67.keep 3 f67.res o e s=some (.d (.bool ok),SN F y ch)
abbrev GC (F:Fix) (y:X) (ok:Bool) (ch:List (Nat×Nat)):Out->Env->aa->Prop:=fun o e s=>fin f67.keep 4 f67.res o e s=some (.d (.bool ok),SC F y ch)
def am5 (F:Fix) (h:Nat):Prop := ∀ l:List Cm,(∀ c∈l,Ok F.cs.length W0 h c)->l.length<=8 -> ∀ x,InvX F x->x.tk+(Cm.tbs l).length<=F.ts.length->x.ch=[]->Ret VP (.fn 67) [.ptr 0 0 0 0,.d (.slice (l.map Cm.d))] (sN F x) (.d (.bool (Cm.exs F.cs F.q l x).2)) (SN F (Cm.exs F.cs F.q l x).1 (Cm.exs F.cs F.q l x).1.ch)
def am6 (F:Fix) (h:Nat):Prop := ∀ l:List Cm,(∀ c∈l,Ok F.cs.length W0 h c)->l.length<=8 -> ∀ x,InvX F x->x.tk+(Cm.tbs l).length<=F.ts.length -> ∀ c0 ch,x.ch=c0::ch->Ret VP (.fn 67) [.ptr 0 0 0 0,.d (.slice (l.map Cm.d))] (sC F x c0 ch) (.d (.bool (Cm.exs F.cs F.q l x).2)) (SC F (Cm.exs F.cs F.q l x).1 (Cm.exs F.cs F.q l x).1.ch)
theorem dj {F:Fix} {x y:X} {n:Nat} (I:InvX F x) (A:AftX F x y n) {c0:Nat×Nat} {ch:List (Nat×Nat)} (h:x.ch=c0::ch) : ∃ c1 ch1,y.ch=c1::ch1:=by
 cases hy:y.ch with
 | nil =>
   have h1:=A.inv.hch
   have h2:=I.hch
   have h3:=A.lo
   rw [hy] at h1;rw [h] at h2
   simp at h1 h2;omega
 | cons c1 ch1=>exact ⟨c1,ch1,rfl⟩
theorem abE (F:Fix) (KF:FOK F) (h:Nat) (ihN:am5 F h) (ihC:am6 F h) (l:List Cm) (hl : ∀ c∈l,Ok F.cs.length W0 (h+1) c) (h8:l.length<=8) (R:X×Bool) : ∀ (suf pre:List Cm) (x:X),l=pre++suf->InvX F x->x.tk+(Cm.tbs suf).length<=F.ts.length->Cm.exs F.cs F.q suf x=R ->
 ah VP 3 [0,21,22,23] ag [.ptr 0 0 0 0,.d (.slice (l.map Cm.d)),.d (.int .i64 ((l.map Cm.d).length:Nat)),.d (.int .i64 (pre.length:Nat))] (SN F x x.ch) [.block 0,.seq aW] (GN F R.1 R.2 R.1.ch):=by
 intro suf
 induction suf with
 | nil =>
   intro pre x hp I hb hR
   have hf:decide ((pre.length:Int) < (((l.map Cm.d).length:Nat):Int))=false:=by rw [hp];simp
   simp only [Cm.exs] at hR
   subst hR
   show ah VP 3 [0,21,22,23] ag [.ptr 0 0 0 0,.d (.slice (l.map Cm.d)),.d (.int .i64 ((l.map Cm.d).length:Nat)),.d (.int .i64 (pre.length:Nat))] (SN F x x.ch) [.block 0,.seq aW] (GN F x true x.ch)
   rcases hx:x.ch with _ | ⟨c0,ch⟩
   · show ah VP 3 [0,21,22,23] ag [.ptr 0 0 0 0,.d (.slice (l.map Cm.d)),.d (.int .i64 ((l.map Cm.d).length:Nat)),.d (.int .i64 (pre.length:Nat))] (sN F x) [.block 0,.seq aW] (GN F x true [])
     unfold ah
     refine Z3r ?_
     exact kG (xs:=[.d (.bool true)]) rfl rfl rfl rfl
   · show ah VP 3 [0,21,22,23] ag [.ptr 0 0 0 0,.d (.slice (l.map Cm.d)),.d (.int .i64 ((l.map Cm.d).length:Nat)),.d (.int .i64 (pre.length:Nat))] (sA F x c0 ch) [.block 0,.seq aW] (GN F x true (c0::ch))
     unfold ah
     refine Z3r ?_
     exact kG (xs:=[.d (.bool true)]) rfl rfl rfl rfl
 | cons c suf ihs =>
   intro pre x hp I hb hR
   have hi:pre.length < (l.map Cm.d).length:=by rw [hp];simp
   have hln:(l.map Cm.d).length < 1000:=by rw [List.length_map];omega
   have hg:=qQ hp
   have hok:=hl c (by rw [hp];simp)
   simp only [Cm.exs] at hR
   simp only [Cm.tbs,List.length_append] at hb
   have hnext : ∀ y:X,InvX F y->y.tk+(Cm.tbs suf).length<=F.ts.length->Cm.exs F.cs F.q suf y=R->ah VP 3 [0,21,22,23] ag [.ptr 0 0 0 0,.d (.slice (l.map Cm.d)),.d (.int .i64 ((l.map Cm.d).length:Nat)),.d (.int .i64 (pre.length+1:Nat))] (SN F y y.ch) [.block 0,.seq aW] (GN F R.1 R.2 R.1.ch):=by
    intro y Iy hy hRy
    have h1:=ihs (pre++[c]) y (by simp [hp]) Iy hy hRy
    rwa [List.length_append,List.length_cons,List.length_nil] at h1
   cases hok with
   | set o f ho hf =>
     rw [rp,if_pos rfl] at hR
     have h1:ah VP 3 [0,21,22,23] ag [.ptr 0 0 0 0,.d (.slice (l.map Cm.d)),.d (.int .i64 ((l.map Cm.d).length:Nat)),.d (.int .i64 (pre.length+1:Nat))] (SN F { x with st:=x.st.set o (clA F.cs o (f.ev x.st)) } x.ch) [.block 0,.seq aW] (GN F R.1 R.2 R.1.ch):=hnext { x with st:=x.st.set o (clA F.cs o (f.ev x.st)) } ⟨by simpa using I.hst,I.hm0,I.hm1,I.hm2,I.hch⟩ (by show x.tk+_<=_;omega) hR
     rcases hx:x.ch with _ | ⟨c0,ch⟩
     · rw [hx] at h1
       exact H9 F KF.hcs x I.hst _ _ hi hln o f ho hf hg h1
     · rw [hx] at h1
       exact Ib F KF.hcs x I.hst _ _ hi hln c0 ch o f ho hf hg h1
   | set2 o u f g ho hu hou hf hgg =>
     rw [rn,if_pos rfl] at hR
     have h1:ah VP 3 [0,21,22,23] ag [.ptr 0 0 0 0,.d (.slice (l.map Cm.d)),.d (.int .i64 ((l.map Cm.d).length:Nat)),.d (.int .i64 (pre.length+1:Nat))] (SN F { x with st:=(x.st.set o (clA F.cs o (f.ev x.st))).set u (clA F.cs u (g.ev x.st)) } x.ch) [.block 0,.seq aW] (GN F R.1 R.2 R.1.ch):=hnext { x with st:=(x.st.set o (clA F.cs o (f.ev x.st))).set u (clA F.cs u (g.ev x.st)) } ⟨by simpa using I.hst,I.hm0,I.hm1,I.hm2,I.hch⟩ (by show x.tk+_<=_;omega) hR
     rcases hx:x.ch with _ | ⟨c0,ch⟩
     · rw [hx] at h1
       exact H6 F KF.hcs x I.hst _ _ hi hln o u f g ho hu hf hgg hg h1
     · rw [hx] at h1
       exact H8 F KF.hcs x I.hst _ _ hi hln c0 ch o u f g ho hu hf hgg hg h1
   | draw v s lo w hv hs hw h1 h2 =>
     rw [rq,if_pos rfl] at hR
     have etb:(Cm.mk 2 v s .z (.tab lo w) [] [] [] []).tb.length=1:=rfl
     rw [etb] at hb
     have htk:x.tk < F.ts.length:=by omega
     have h6:=KF.ht6
     have h3:ah VP 3 [0,21,22,23] ag [.ptr 0 0 0 0,.d (.slice (l.map Cm.d)),.d (.int .i64 ((l.map Cm.d).length:Nat)),.d (.int .i64 (pre.length+1:Nat))] (SN F { ch:=x.ch++[(s,pk w (F.q x.tk))],m:=x.m*val2 (w.getD (pk w (F.q x.tk)) p0),st:=x.st.set v (clA F.cs v (lo+(pk w (F.q x.tk):Nat))),en:=x.en,tk:=x.tk+1 } (x.ch++[(s,pk w (F.q x.tk))])) [.block 0,.seq aW] (GN F R.1 R.2 R.1.ch):=hnext { ch:=x.ch++[(s,pk w (F.q x.tk))],m:=x.m*val2 (w.getD (pk w (F.q x.tk)) p0),st:=x.st.set v (clA F.cs v (lo+(pk w (F.q x.tk):Nat))),en:=x.en,tk:=x.tk+1 } (kE KF I htk w hw _ (by simp [I.hch]) _ _ _) (by show x.tk+1+_<=_;omega) hR
     rcases hx:x.ch with _ | ⟨c0,ch⟩
     · rw [hx] at h3
       exact I4 F KF.hcs x I.hst _ _ hi hln v s lo w hv hw h1 h2 KF.hb KF.hall htk (by omega) I.hm0 (I.fit (by omega)) hg h3
     · rw [hx] at h3
       exact I6 F KF.hcs x I.hst _ _ hi hln c0 ch (by have:=I.hch;rw [hx] at this;simp at this;omega) v s lo w hv hw h1 h2 KF.hb KF.hall htk (by omega) I.hm0 (I.fit (by omega)) hg h3
   | iff f a b hf ha hb' ca cb =>
     rw [u7] at hR
     rw [Cm.d_eq] at hg
     have etb:(Cm.mk 3 0 0 f .z a b [] []).tb=Cm.tbs a++Cm.tbs b:=by simp [Cm.tb]
     rw [etb,List.length_append] at hb
     by_cases h0:f.ev x.st=0
     · rw [if_pos h0] at hR
       have A:=iU KF h b cb x I (by omega)
       have hrN:=ihN b cb (by omega) x I (by omega)
       have hrC:=ihC b cb (by omega) x I (by omega)
       generalize Cm.exs F.cs F.q b x=r at hR A hrN hrC
       obtain ⟨y,ok⟩:=r
       dsimp only at hR A hrN hrC
       cases ok with
       | false =>
         rw [if_neg (by simp)] at hR
         subst hR
         show ah VP 3 [0,21,22,23] ag [.ptr 0 0 0 0,.d (.slice (l.map Cm.d)),.d (.int .i64 ((l.map Cm.d).length:Nat)),.d (.int .i64 (pre.length:Nat))] (SN F x x.ch) [.block 0,.seq aW] (GN F y false y.ch)
         rcases hx:x.ch with _ | ⟨c0,ch⟩
         · have hr:=hrN hx
           rcases hy:y.ch with _ | ⟨c1,ch1⟩
           · rw [hy] at hr
             exact tz F KF.hcs x I.hst _ _ hi hln y f _ _ hf hg h0 hr
           · rw [hy] at hr
             exact tD F KF.hcs x I.hst _ _ hi hln c1 ch1 y f _ _ hf hg h0 hr
         · have hr:=hrC c0 ch hx
           obtain ⟨c1,ch1,hy⟩:=dj I A hx
           rw [hy] at hr ⊢
           exact tH F KF.hcs x I.hst _ _ hi hln c0 ch c1 ch1 y f _ _ hf hg h0 hr
       | true =>
         rw [if_pos rfl] at hR
         have h1:=hnext y A.inv (by have:=A.hi;omega) hR
         rcases hx:x.ch with _ | ⟨c0,ch⟩
         · have hr:=hrN hx
           rcases hy:y.ch with _ | ⟨c1,ch1⟩
           · rw [hy] at hr h1
             exact wD F KF.hcs x I.hst _ _ hi hln y f _ _ hf hg h0 hr h1
           · rw [hy] at hr h1
             exact wF F KF.hcs x I.hst _ _ hi hln c1 ch1 y f _ _ hf hg h0 hr h1
         · have hr:=hrC c0 ch hx
           obtain ⟨c1,ch1,hy⟩:=dj I A hx
           rw [hy] at hr h1
           exact wJ F KF.hcs x I.hst _ _ hi hln c0 ch c1 ch1 y f _ _ hf hg h0 hr h1
     · rw [if_neg h0] at hR
       have A:=iU KF h a ca x I (by omega)
       have hrN:=ihN a ca (by omega) x I (by omega)
       have hrC:=ihC a ca (by omega) x I (by omega)
       generalize Cm.exs F.cs F.q a x=r at hR A hrN hrC
       obtain ⟨y,ok⟩:=r
       dsimp only at hR A hrN hrC
       cases ok with
       | false =>
         rw [if_neg (by simp)] at hR
         subst hR
         show ah VP 3 [0,21,22,23] ag [.ptr 0 0 0 0,.d (.slice (l.map Cm.d)),.d (.int .i64 ((l.map Cm.d).length:Nat)),.d (.int .i64 (pre.length:Nat))] (SN F x x.ch) [.block 0,.seq aW] (GN F y false y.ch)
         rcases hx:x.ch with _ | ⟨c0,ch⟩
         · have hr:=hrN hx
           rcases hy:y.ch with _ | ⟨c1,ch1⟩
           · rw [hy] at hr
             exact tw F KF.hcs x I.hst _ _ hi hln y f _ _ hf hg h0 hr
           · rw [hy] at hr
             exact tC F KF.hcs x I.hst _ _ hi hln c1 ch1 y f _ _ hf hg h0 hr
         · have hr:=hrC c0 ch hx
           obtain ⟨c1,ch1,hy⟩:=dj I A hx
           rw [hy] at hr ⊢
           exact tG F KF.hcs x I.hst _ _ hi hln c0 ch c1 ch1 y f _ _ hf hg h0 hr
       | true =>
         rw [if_pos rfl] at hR
         have h1:=hnext y A.inv (by have:=A.hi;omega) hR
         rcases hx:x.ch with _ | ⟨c0,ch⟩
         · have hr:=hrN hx
           rcases hy:y.ch with _ | ⟨c1,ch1⟩
           · rw [hy] at hr h1
             exact wC F KF.hcs x I.hst _ _ hi hln y f _ _ hf hg h0 hr h1
           · rw [hy] at hr h1
             exact wE F KF.hcs x I.hst _ _ hi hln c1 ch1 y f _ _ hf hg h0 hr h1
         · have hr:=hrC c0 ch hx
           obtain ⟨c1,ch1,hy⟩:=dj I A hx
           rw [hy] at hr h1
           exact wI F KF.hcs x I.hst _ _ hi hln c0 ch c1 ch1 y f _ _ hf hg h0 hr h1
   | obs f hf =>
     rw [u6] at hR
     by_cases h0:f.ev x.st=0
     · rw [if_pos h0,if_neg (by simp)] at hR
       subst hR
       show ah VP 3 [0,21,22,23] ag [.ptr 0 0 0 0,.d (.slice (l.map Cm.d)),.d (.int .i64 ((l.map Cm.d).length:Nat)),.d (.int .i64 (pre.length:Nat))] (SN F x x.ch) [.block 0,.seq aW] (GN F { x with en:=2 } false x.ch)
       rcases hx:x.ch with _ | ⟨c0,ch⟩
       · exact Is F KF.hcs x I.hst _ _ hi hln f hf hg h0
       · exact Iu F KF.hcs x I.hst _ _ hi hln c0 ch f hf hg h0
     · rw [if_neg h0,if_pos rfl] at hR
       have h1:=hnext x I (by omega) hR
       rcases hx:x.ch with _ | ⟨c0,ch⟩
       · rw [hx] at h1
         exact Ip F KF.hcs x I.hst _ _ hi hln f hf hg h0 h1
       · rw [hx] at h1
         exact Ir F KF.hcs x I.hst _ _ hi hln c0 ch f hf hg h0 h1
   | cut =>
     rw [u9,if_neg (by simp)] at hR
     subst hR
     show ah VP 3 [0,21,22,23] ag [.ptr 0 0 0 0,.d (.slice (l.map Cm.d)),.d (.int .i64 ((l.map Cm.d).length:Nat)),.d (.int .i64 (pre.length:Nat))] (SN F x x.ch) [.block 0,.seq aW] (GN F { x with en:=3 } false x.ch)
     rcases hx:x.ch with _ | ⟨c0,ch⟩
     · exact abM F KF.hcs x I.hst _ _ hi hln hg
     · exact abO F KF.hcs x I.hst _ _ hi hln c0 ch hg
theorem abF (F:Fix) (KF:FOK F) (h:Nat) (ihN:am5 F h) (ihC:am6 F h) (l:List Cm) (hl : ∀ c∈l,Ok F.cs.length W0 (h+1) c) (h8:l.length<=8) (R:X×Bool) : ∀ (suf pre:List Cm) (x:X),l=pre++suf->InvX F x->x.tk+(Cm.tbs suf).length<=F.ts.length->x.ch≠[]->Cm.exs F.cs F.q suf x=R ->
 ah VP 4 [0,21,22,23] ag [.ptr 0 0 0 0,.d (.slice (l.map Cm.d)),.d (.int .i64 ((l.map Cm.d).length:Nat)),.d (.int .i64 (pre.length:Nat))] (SC F x x.ch) [.block 0,.seq aW] (GC F R.1 R.2 R.1.ch):=by
 intro suf
 induction suf with
 | nil =>
   intro pre x hp I hb hne hR
   have hf:decide ((pre.length:Int) < (((l.map Cm.d).length:Nat):Int))=false:=by rw [hp];simp
   simp only [Cm.exs] at hR
   subst hR
   show ah VP 4 [0,21,22,23] ag [.ptr 0 0 0 0,.d (.slice (l.map Cm.d)),.d (.int .i64 ((l.map Cm.d).length:Nat)),.d (.int .i64 (pre.length:Nat))] (SC F x x.ch) [.block 0,.seq aW] (GC F x true x.ch)
   obtain ⟨c0,ch,hx⟩ : ∃ c0 ch,x.ch=c0::ch:=List.exists_cons_of_ne_nil hne
   rw [hx]
   show ah VP 4 [0,21,22,23] ag [.ptr 0 0 0 0,.d (.slice (l.map Cm.d)),.d (.int .i64 ((l.map Cm.d).length:Nat)),.d (.int .i64 (pre.length:Nat))] (sC F x c0 ch) [.block 0,.seq aW] (GC F x true (c0::ch))
   unfold ah
   refine Z3r ?_
   exact kG (xs:=[.d (.bool true)]) rfl rfl rfl rfl
 | cons c suf ihs =>
   intro pre x hp I hb hne hR
   have hi:pre.length < (l.map Cm.d).length:=by rw [hp];simp
   have hln:(l.map Cm.d).length < 1000:=by rw [List.length_map];omega
   have hg:=qQ hp
   have hok:=hl c (by rw [hp];simp)
   simp only [Cm.exs] at hR
   simp only [Cm.tbs,List.length_append] at hb
   have hnext : ∀ y:X,InvX F y->y.tk+(Cm.tbs suf).length<=F.ts.length->y.ch≠[]->Cm.exs F.cs F.q suf y=R->ah VP 4 [0,21,22,23] ag [.ptr 0 0 0 0,.d (.slice (l.map Cm.d)),.d (.int .i64 ((l.map Cm.d).length:Nat)),.d (.int .i64 (pre.length+1:Nat))] (SC F y y.ch) [.block 0,.seq aW] (GC F R.1 R.2 R.1.ch):=by
    intro y Iy hy hyn hRy
    have h1:=ihs (pre++[c]) y (by simp [hp]) Iy hy hyn hRy
    rwa [List.length_append,List.length_cons,List.length_nil] at h1
   obtain ⟨c0,ch,hx⟩ : ∃ c0 ch,x.ch=c0::ch:=List.exists_cons_of_ne_nil hne
   cases hok with
   | set o f ho hf =>
     rw [rp,if_pos rfl] at hR
     have h1:ah VP 4 [0,21,22,23] ag [.ptr 0 0 0 0,.d (.slice (l.map Cm.d)),.d (.int .i64 ((l.map Cm.d).length:Nat)),.d (.int .i64 (pre.length+1:Nat))] (SC F { x with st:=x.st.set o (clA F.cs o (f.ev x.st)) } x.ch) [.block 0,.seq aW] (GC F R.1 R.2 R.1.ch):=hnext { x with st:=x.st.set o (clA F.cs o (f.ev x.st)) } ⟨by simpa using I.hst,I.hm0,I.hm1,I.hm2,I.hch⟩ (by show x.tk+_<=_;omega) hne hR
     rw [hx] at h1
     rw [hx]
     exact Ia F KF.hcs x I.hst _ _ hi hln c0 ch o f ho hf hg h1
   | set2 o u f g ho hu hou hf hgg =>
     rw [rn,if_pos rfl] at hR
     have h1:ah VP 4 [0,21,22,23] ag [.ptr 0 0 0 0,.d (.slice (l.map Cm.d)),.d (.int .i64 ((l.map Cm.d).length:Nat)),.d (.int .i64 (pre.length+1:Nat))] (SC F { x with st:=(x.st.set o (clA F.cs o (f.ev x.st))).set u (clA F.cs u (g.ev x.st)) } x.ch) [.block 0,.seq aW] (GC F R.1 R.2 R.1.ch):=hnext { x with st:=(x.st.set o (clA F.cs o (f.ev x.st))).set u (clA F.cs u (g.ev x.st)) } ⟨by simpa using I.hst,I.hm0,I.hm1,I.hm2,I.hch⟩ (by show x.tk+_<=_;omega) hne hR
     rw [hx] at h1
     rw [hx]
     exact H7 F KF.hcs x I.hst _ _ hi hln c0 ch o u f g ho hu hf hgg hg h1
   | draw v s lo w hv hs hw h1 h2 =>
     rw [rq,if_pos rfl] at hR
     have etb:(Cm.mk 2 v s .z (.tab lo w) [] [] [] []).tb.length=1:=rfl
     rw [etb] at hb
     have htk:x.tk < F.ts.length:=by omega
     have h6:=KF.ht6
     have h3:ah VP 4 [0,21,22,23] ag [.ptr 0 0 0 0,.d (.slice (l.map Cm.d)),.d (.int .i64 ((l.map Cm.d).length:Nat)),.d (.int .i64 (pre.length+1:Nat))] (SC F { ch:=x.ch++[(s,pk w (F.q x.tk))],m:=x.m*val2 (w.getD (pk w (F.q x.tk)) p0),st:=x.st.set v (clA F.cs v (lo+(pk w (F.q x.tk):Nat))),en:=x.en,tk:=x.tk+1 } (x.ch++[(s,pk w (F.q x.tk))])) [.block 0,.seq aW] (GC F R.1 R.2 R.1.ch):=hnext { ch:=x.ch++[(s,pk w (F.q x.tk))],m:=x.m*val2 (w.getD (pk w (F.q x.tk)) p0),st:=x.st.set v (clA F.cs v (lo+(pk w (F.q x.tk):Nat))),en:=x.en,tk:=x.tk+1 } (kE KF I htk w hw _ (by simp [I.hch]) _ _ _) (by show x.tk+1+_<=_;omega) (by simp) hR
     rw [hx] at h3
     rw [hx]
     exact I5 F KF.hcs x I.hst _ _ hi hln c0 ch (by have:=I.hch;rw [hx] at this;simp at this;omega) v s lo w hv hw h1 h2 KF.hb KF.hall htk (by omega) I.hm0 (I.fit (by omega)) hg h3
   | iff f a b hf ha hb' ca cb =>
     rw [u7] at hR
     rw [Cm.d_eq] at hg
     have etb:(Cm.mk 3 0 0 f .z a b [] []).tb=Cm.tbs a++Cm.tbs b:=by simp [Cm.tb]
     rw [etb,List.length_append] at hb
     by_cases h0:f.ev x.st=0
     · rw [if_pos h0] at hR
       have A:=iU KF h b cb x I (by omega)
       have hrC:=ihC b cb (by omega) x I (by omega) c0 ch hx
       generalize Cm.exs F.cs F.q b x=r at hR A hrC
       obtain ⟨y,ok⟩:=r
       dsimp only at hR A hrC
       cases ok with
       | false =>
         rw [if_neg (by simp)] at hR
         subst hR
         show ah VP 4 [0,21,22,23] ag [.ptr 0 0 0 0,.d (.slice (l.map Cm.d)),.d (.int .i64 ((l.map Cm.d).length:Nat)),.d (.int .i64 (pre.length:Nat))] (SC F x x.ch) [.block 0,.seq aW] (GC F y false y.ch)
         obtain ⟨c1,ch1,hy⟩:=dj I A hx
         have hr:=hrC
         rw [hy] at hr ⊢
         rw [hx]
         exact tF F KF.hcs x I.hst _ _ hi hln c0 ch c1 ch1 y f _ _ hf hg h0 hr
       | true =>
         rw [if_pos rfl] at hR
         have h1:=hnext y A.inv (by have:=A.hi;omega) (by obtain ⟨c1,ch1,hy⟩:=dj I A hx;simp [hy]) hR
         obtain ⟨c1,ch1,hy⟩:=dj I A hx
         have hr:=hrC
         rw [hy] at hr h1
         rw [hx]
         exact wH F KF.hcs x I.hst _ _ hi hln c0 ch c1 ch1 y f _ _ hf hg h0 hr h1
     · rw [if_neg h0] at hR
       have A:=iU KF h a ca x I (by omega)
       have hrC:=ihC a ca (by omega) x I (by omega) c0 ch hx
       generalize Cm.exs F.cs F.q a x=r at hR A hrC
       obtain ⟨y,ok⟩:=r
       dsimp only at hR A hrC
       cases ok with
       | false =>
         rw [if_neg (by simp)] at hR
         subst hR
         show ah VP 4 [0,21,22,23] ag [.ptr 0 0 0 0,.d (.slice (l.map Cm.d)),.d (.int .i64 ((l.map Cm.d).length:Nat)),.d (.int .i64 (pre.length:Nat))] (SC F x x.ch) [.block 0,.seq aW] (GC F y false y.ch)
         obtain ⟨c1,ch1,hy⟩:=dj I A hx
         have hr:=hrC
         rw [hy] at hr ⊢
         rw [hx]
         exact tE F KF.hcs x I.hst _ _ hi hln c0 ch c1 ch1 y f _ _ hf hg h0 hr
       | true =>
         rw [if_pos rfl] at hR
         have h1:=hnext y A.inv (by have:=A.hi;omega) (by obtain ⟨c1,ch1,hy⟩:=dj I A hx;simp [hy]) hR
         obtain ⟨c1,ch1,hy⟩:=dj I A hx
         have hr:=hrC
         rw [hy] at hr h1
         rw [hx]
         exact wG F KF.hcs x I.hst _ _ hi hln c0 ch c1 ch1 y f _ _ hf hg h0 hr h1
   | obs f hf =>
     rw [u6] at hR
     by_cases h0:f.ev x.st=0
     · rw [if_pos h0,if_neg (by simp)] at hR
       subst hR
       show ah VP 4 [0,21,22,23] ag [.ptr 0 0 0 0,.d (.slice (l.map Cm.d)),.d (.int .i64 ((l.map Cm.d).length:Nat)),.d (.int .i64 (pre.length:Nat))] (SC F x x.ch) [.block 0,.seq aW] (GC F { x with en:=2 } false x.ch)
       rw [hx]
       exact It F KF.hcs x I.hst _ _ hi hln c0 ch f hf hg h0
     · rw [if_neg h0,if_pos rfl] at hR
       have h1:=hnext x I (by omega) hne hR
       rw [hx] at h1
       rw [hx]
       exact Iq F KF.hcs x I.hst _ _ hi hln c0 ch f hf hg h0 h1
   | cut =>
     rw [u9,if_neg (by simp)] at hR
     subst hR
     show ah VP 4 [0,21,22,23] ag [.ptr 0 0 0 0,.d (.slice (l.map Cm.d)),.d (.int .i64 ((l.map Cm.d).length:Nat)),.d (.int .i64 (pre.length:Nat))] (SC F x x.ch) [.block 0,.seq aW] (GC F { x with en:=3 } false x.ch)
     rw [hx]
     exact abN F KF.hcs x I.hst _ _ hi hln c0 ch hg
theorem hX (F:Fix) (KF:FOK F) : ∀ h:Nat,am5 F h/\am6 F h:=by
 intro h
 induction h with
 | zero =>
   constructor
   · intro l hl h8 x I hb hx
     rw [b5 hl]
     have hR:Cm.exs F.cs F.q [] x=(x,true):=rfl
     rw [hR]
     dsimp only
     rw [hx]
     refine ret_of rfl rfl (r0 ?_)
     have k3:(sN F x).length=3:=rfl
     rw [k3]
     refine Z3r ?_
     refine hdX rfl rfl rfl rfl ?_
     unfold ah
     refine Z3r ?_
     exact kG (xs:=[.d (.bool true)]) rfl rfl rfl rfl
   · intro l hl h8 x I hb c0 ch hx
     rw [b5 hl]
     have hR:Cm.exs F.cs F.q [] x=(x,true):=rfl
     rw [hR]
     dsimp only
     rw [hx]
     refine ret_of rfl rfl (r0 ?_)
     have k4:(sC F x c0 ch).length=4:=rfl
     rw [k4]
     refine Z3r ?_
     refine hdX rfl rfl rfl rfl ?_
     unfold ah
     refine Z3r ?_
     exact kG (xs:=[.d (.bool true)]) rfl rfl rfl rfl
 | succ h ih =>
   constructor
   · intro l hl h8 x I hb hx
     have h1:=abE F KF h ih.1 ih.2 l hl h8 _ l [] x rfl I hb rfl
     rw [hx] at h1
     refine ret_of rfl rfl (r0 ?_)
     have k3:(sN F x).length=3:=rfl
     rw [k3]
     refine Z3r ?_
     refine hdX rfl rfl rfl rfl ?_
     exact h1
   · intro l hl h8 x I hb c0 ch hx
     have h1:=abF F KF h ih.1 ih.2 l hl h8 _ l [] x rfl I hb (by rw [hx];simp) rfl
     rw [hx] at h1
     refine ret_of rfl rfl (r0 ?_)
     have k4:(sC F x c0 ch).length=4:=rfl
     rw [k4]
     refine Z3r ?_
     refine hdX rfl rfl rfl rfl ?_
     exact h1
def trD (y:X):D := .agg [.slice (y.ch.map chD),.slice [ct y.m],.slice (y.st.map iD),.int .i64 y.en]
theorem Jy (l:List (Nat×Nat)):(l.map chD).all bJ=true:=by
 induction l with
 | nil=>rfl
 | cons c l ih=>rw [List.map_cons,List.all_cons,ih];rfl
theorem kc {s:aa} {b n:Nat} {st:List Int} {mass:D} {en:Int} (h8:getB s b=some (.rows 0 false 1 (ao (st.map iD)))) (hn:n=st.length) :
 toD s bB (.tuple [.agg [.nils,.d mass,.ms b 0 0 n,.d (.int .i64 en)],.d (.int .i64 0)])=some (.tuple [.agg [.slice [],mass,.slice (st.map iD),.int .i64 en],.int .i64 0],[b]):=by
 have h2:toD s 28 (.ms b 0 0 n)=some (.slice (st.map iD),[b]):=jr (n:=26) h8 (by rw [hn,List.length_map]) (bM st)
 show (aC (toD s 29) [.agg [.nils,.d mass,.ms b 0 0 n,.d (.int .i64 en)],.d (.int .i64 0)]).map (fun (es,a)=>(D.tuple es,a))=_
 have h3:toD s 29 (.agg [.nils,.d mass,.ms b 0 0 n,.d (.int .i64 en)])=some (.agg [.slice [],mass,.slice (st.map iD),.int .i64 en],[b]):=by
  show (aC (toD s 28) [.nils,.d mass,.ms b 0 0 n,.d (.int .i64 en)]).map (fun (es,a)=>(D.agg es,a))=_
  have h1:toD s 28 .nils=some (.slice [],[]):=rfl
  simp only [aC,h1,h2]
  rfl
 simp only [aC,h3]
 rfl
theorem ka {s:aa} {a b v k n:Nat} {ch:List (Nat×Nat)} {st:List Int} {mass:D} {en:Int} (h9:getB s a=some (.rows v false 2 (ao (ch.map chD)))) (hk:k=ch.length) (h8:getB s b=some (.rows 0 false 1 (ao (st.map iD)))) (hn:n=st.length) :
 toD s bB (.tuple [.agg [.ms a v 0 k,.d mass,.ms b 0 0 n,.d (.int .i64 en)],.d (.int .i64 0)])=some (.tuple [.agg [.slice (ch.map chD),mass,.slice (st.map iD),.int .i64 en],.int .i64 0],[a,b]):=by
 have h1:toD s 28 (.ms a v 0 k)=some (.slice (ch.map chD),[a]):=jr (n:=26) h9 (by rw [hk,List.length_map]) (Jy ch)
 have h2:toD s 28 (.ms b 0 0 n)=some (.slice (st.map iD),[b]):=jr (n:=26) h8 (by rw [hn,List.length_map]) (bM st)
 show (aC (toD s 29) [.agg [.ms a v 0 k,.d mass,.ms b 0 0 n,.d (.int .i64 en)],.d (.int .i64 0)]).map (fun (es,a)=>(D.tuple es,a))=_
 have h3:toD s 29 (.agg [.ms a v 0 k,.d mass,.ms b 0 0 n,.d (.int .i64 en)])=some (.agg [.slice (ch.map chD),mass,.slice (st.map iD),.int .i64 en],[a,b]):=by
  show (aC (toD s 28) [.ms a v 0 k,.d mass,.ms b 0 0 n,.d (.int .i64 en)]).map (fun (es,a)=>(D.agg es,a))=_
  simp only [aC,h1,h2]
  rfl
 simp only [aC,h3]
 rfl
def x0 (cs:List Ce):X:=⟨[],1,cs.map fun c=>c.cl 0,1,0⟩
theorem nj (F:Fix):InvX F (x0 F.cs):=⟨by simp [x0],by show (1:Rat)≠0;decide,by show (1:Rat).num.natAbs<=1;decide,by show (1:Rat).den<=1;decide,rfl⟩
theorem tf:Ret VP (.fn 65) [.d (.int .i64 1)] [] (.d (.slice [ct 1])) []:=by
 have h:=amA 1 (by omega)
 rwa [show cp ((1:Nat):Rat) = .slice [ct 1] by unfold cp;rw [if_neg (by decide)];rfl] at h
theorem tS (a:Ce) (bd:List Cm) (os:List Nat) (T:Ty) (b:Nat) (ts:List Nat) (KF:FOK ⟨[a],bd.map Cm.d,os,T,b,ts⟩) (hbd : ∀ c∈bd,Ok 1 W0 4 c) (h8:bd.length<=8) (ht:(Cm.tbs bd).length<=ts.length) (y:X) (hy:(Cm.exs [a] (Fix.q ⟨[a],bd.map Cm.d,os,T,b,ts⟩) bd (x0 [a])).1=y) :
 Ret VP (.fn 38) [.d (moD 0 [a] bd os T),.func 441 [.ptr 0 0 0 0] []] [some (rdB b ts 0)] (.d (.tuple [trD y,.int .i64 0])) [some (rdB b ts y.tk)]:=by
 have h1:=tf
 have hx:=(hX ⟨[a],bd.map Cm.d,os,T,b,ts⟩ KF 4).1 bd hbd h8 (x0 [a]) (nj ⟨[a],bd.map Cm.d,os,T,b,ts⟩) (by show 0+(Cm.tbs bd).length<=ts.length;omega) rfl
 dsimp only at hx
 rw [hy] at hx
 generalize (Cm.exs [a] (Fix.q ⟨[a],bd.map Cm.d,os,T,b,ts⟩) bd (x0 [a])).2=ok at hx
 have ca:=bI a (KF.hcs a (by simp)) 0
 rcases hz:y.ch with _ | ⟨c1,ch1⟩
 · rw [hz] at hx
   replace hx:Ret VP (.fn 67) [.ptr 0 0 0 0,.d (.slice (bd.map Cm.d))] (sN ⟨[a],bd.map Cm.d,os,T,b,ts⟩ (x0 [a])) (.d (.bool ok)) (sN ⟨[a],bd.map Cm.d,os,T,b,ts⟩ y):=hx
   have hq:=Hd.mk hx
   clear hx
   have e:trD y = .agg [.slice [],.slice [ct y.m],.slice (y.st.map iD),.int .i64 y.en]:=by unfold trD;rw [hz];rfl
   rw [e]
   refine ret_of rfl rfl (r0 ?_)
   refine Z3r ?_
   refine lhX rfl rfl rfl rfl ?_
   refine Z3r ?_
   refine lhX rfl rfl rfl rfl ?_
   (refine Z3r ?_;(repeat first | (refine oRX hq.h rfl rfl rfl rfl rfl rfl rfl rfl ?_;refine Z3r ?_)))
   exact ez (ids:=[0]) rfl (kc (en:=y.en) rfl rfl) rfl rfl rfl
 · rw [hz] at hx
   replace hx:Ret VP (.fn 67) [.ptr 0 0 0 0,.d (.slice (bd.map Cm.d))] (sN ⟨[a],bd.map Cm.d,os,T,b,ts⟩ (x0 [a])) (.d (.bool ok)) (sA ⟨[a],bd.map Cm.d,os,T,b,ts⟩ y c1 ch1):=hx
   have hq:=Hd.mk hx
   clear hx
   have e:trD y = .agg [.slice ((c1::ch1).map chD),.slice [ct y.m],.slice (y.st.map iD),.int .i64 y.en]:=by unfold trD;rw [hz]
   rw [e]
   refine ret_of rfl rfl (r0 ?_)
   refine Z3r ?_
   refine lhX rfl rfl rfl rfl ?_
   refine Z3r ?_
   refine lhX rfl rfl rfl rfl ?_
   (refine Z3r ?_;(repeat first | (refine oRX hq.h rfl rfl rfl rfl rfl rfl rfl rfl ?_;refine Z3r ?_)))
   exact ez (ids:=[0]) rfl (ka (ch:=c1::ch1) (en:=y.en) rfl rfl rfl rfl) rfl rfl rfl
theorem tR (a e1:Ce) (bd:List Cm) (os:List Nat) (T:Ty) (b:Nat) (ts:List Nat) (KF:FOK ⟨[a,e1],bd.map Cm.d,os,T,b,ts⟩) (hbd : ∀ c∈bd,Ok 2 W0 4 c) (h8:bd.length<=8) (ht:(Cm.tbs bd).length<=ts.length) (y:X) (hy:(Cm.exs [a,e1] (Fix.q ⟨[a,e1],bd.map Cm.d,os,T,b,ts⟩) bd (x0 [a,e1])).1=y) :
 Ret VP (.fn 38) [.d (moD 0 [a,e1] bd os T),.func 441 [.ptr 0 0 0 0] []] [some (rdB b ts 0)] (.d (.tuple [trD y,.int .i64 0])) [some (rdB b ts y.tk)]:=by
 have h1:=tf
 have hx:=(hX ⟨[a,e1],bd.map Cm.d,os,T,b,ts⟩ KF 4).1 bd hbd h8 (x0 [a,e1]) (nj ⟨[a,e1],bd.map Cm.d,os,T,b,ts⟩) (by show 0+(Cm.tbs bd).length<=ts.length;omega) rfl
 dsimp only at hx
 rw [hy] at hx
 generalize (Cm.exs [a,e1] (Fix.q ⟨[a,e1],bd.map Cm.d,os,T,b,ts⟩) bd (x0 [a,e1])).2=ok at hx
 have ca:=bI a (KF.hcs a (by simp)) 0
 have ce1:=bI e1 (KF.hcs e1 (by simp)) 0
 rcases hz:y.ch with _ | ⟨c1,ch1⟩
 · rw [hz] at hx
   replace hx:Ret VP (.fn 67) [.ptr 0 0 0 0,.d (.slice (bd.map Cm.d))] (sN ⟨[a,e1],bd.map Cm.d,os,T,b,ts⟩ (x0 [a,e1])) (.d (.bool ok)) (sN ⟨[a,e1],bd.map Cm.d,os,T,b,ts⟩ y):=hx
   have hq:=Hd.mk hx
   clear hx
   have e:trD y = .agg [.slice [],.slice [ct y.m],.slice (y.st.map iD),.int .i64 y.en]:=by unfold trD;rw [hz];rfl
   rw [e]
   refine ret_of rfl rfl (r0 ?_)
   refine Z3r ?_
   refine lhX rfl rfl rfl rfl ?_
   refine Z3r ?_
   refine lhX rfl rfl rfl rfl ?_
   refine Z3r ?_
   refine lhX rfl rfl rfl rfl ?_
   (refine Z3r ?_;(repeat first | (refine oRX hq.h rfl rfl rfl rfl rfl rfl rfl rfl ?_;refine Z3r ?_)))
   exact ez (ids:=[0]) rfl (kc (en:=y.en) rfl rfl) rfl rfl rfl
 · rw [hz] at hx
   replace hx:Ret VP (.fn 67) [.ptr 0 0 0 0,.d (.slice (bd.map Cm.d))] (sN ⟨[a,e1],bd.map Cm.d,os,T,b,ts⟩ (x0 [a,e1])) (.d (.bool ok)) (sA ⟨[a,e1],bd.map Cm.d,os,T,b,ts⟩ y c1 ch1):=hx
   have hq:=Hd.mk hx
   clear hx
   have e:trD y = .agg [.slice ((c1::ch1).map chD),.slice [ct y.m],.slice (y.st.map iD),.int .i64 y.en]:=by unfold trD;rw [hz]
   rw [e]
   refine ret_of rfl rfl (r0 ?_)
   refine Z3r ?_
   refine lhX rfl rfl rfl rfl ?_
   refine Z3r ?_
   refine lhX rfl rfl rfl rfl ?_
   refine Z3r ?_
   refine lhX rfl rfl rfl rfl ?_
   (refine Z3r ?_;(repeat first | (refine oRX hq.h rfl rfl rfl rfl rfl rfl rfl rfl ?_;refine Z3r ?_)))
   exact ez (ids:=[0]) rfl (ka (ch:=c1::ch1) (en:=y.en) rfl rfl rfl rfl) rfl rfl rfl
theorem tQ (a e1 e2:Ce) (bd:List Cm) (os:List Nat) (T:Ty) (b:Nat) (ts:List Nat) (KF:FOK ⟨[a,e1,e2],bd.map Cm.d,os,T,b,ts⟩) (hbd : ∀ c∈bd,Ok 3 W0 4 c) (h8:bd.length<=8) (ht:(Cm.tbs bd).length<=ts.length) (y:X) (hy:(Cm.exs [a,e1,e2] (Fix.q ⟨[a,e1,e2],bd.map Cm.d,os,T,b,ts⟩) bd (x0 [a,e1,e2])).1=y) :
 Ret VP (.fn 38) [.d (moD 0 [a,e1,e2] bd os T),.func 441 [.ptr 0 0 0 0] []] [some (rdB b ts 0)] (.d (.tuple [trD y,.int .i64 0])) [some (rdB b ts y.tk)]:=by
 have h1:=tf
 have hx:=(hX ⟨[a,e1,e2],bd.map Cm.d,os,T,b,ts⟩ KF 4).1 bd hbd h8 (x0 [a,e1,e2]) (nj ⟨[a,e1,e2],bd.map Cm.d,os,T,b,ts⟩) (by show 0+(Cm.tbs bd).length<=ts.length;omega) rfl
 dsimp only at hx
 rw [hy] at hx
 generalize (Cm.exs [a,e1,e2] (Fix.q ⟨[a,e1,e2],bd.map Cm.d,os,T,b,ts⟩) bd (x0 [a,e1,e2])).2=ok at hx
 have ca:=bI a (KF.hcs a (by simp)) 0
 have ce1:=bI e1 (KF.hcs e1 (by simp)) 0
 have ce2:=bI e2 (KF.hcs e2 (by simp)) 0
 rcases hz:y.ch with _ | ⟨c1,ch1⟩
 · rw [hz] at hx
   replace hx:Ret VP (.fn 67) [.ptr 0 0 0 0,.d (.slice (bd.map Cm.d))] (sN ⟨[a,e1,e2],bd.map Cm.d,os,T,b,ts⟩ (x0 [a,e1,e2])) (.d (.bool ok)) (sN ⟨[a,e1,e2],bd.map Cm.d,os,T,b,ts⟩ y):=hx
   have hq:=Hd.mk hx
   clear hx
   have e:trD y = .agg [.slice [],.slice [ct y.m],.slice (y.st.map iD),.int .i64 y.en]:=by unfold trD;rw [hz];rfl
   rw [e]
   refine ret_of rfl rfl (r0 ?_)
   refine Z3r ?_
   refine lhX rfl rfl rfl rfl ?_
   refine Z3r ?_
   refine lhX rfl rfl rfl rfl ?_
   refine Z3r ?_
   refine lhX rfl rfl rfl rfl ?_
   refine Z3r ?_
   refine lhX rfl rfl rfl rfl ?_
   (refine Z3r ?_;(repeat first | (refine oRX hq.h rfl rfl rfl rfl rfl rfl rfl rfl ?_;refine Z3r ?_)))
   exact ez (ids:=[0]) rfl (kc (en:=y.en) rfl rfl) rfl rfl rfl
 · rw [hz] at hx
   replace hx:Ret VP (.fn 67) [.ptr 0 0 0 0,.d (.slice (bd.map Cm.d))] (sN ⟨[a,e1,e2],bd.map Cm.d,os,T,b,ts⟩ (x0 [a,e1,e2])) (.d (.bool ok)) (sA ⟨[a,e1,e2],bd.map Cm.d,os,T,b,ts⟩ y c1 ch1):=hx
   have hq:=Hd.mk hx
   clear hx
   have e:trD y = .agg [.slice ((c1::ch1).map chD),.slice [ct y.m],.slice (y.st.map iD),.int .i64 y.en]:=by unfold trD;rw [hz]
   rw [e]
   refine ret_of rfl rfl (r0 ?_)
   refine Z3r ?_
   refine lhX rfl rfl rfl rfl ?_
   refine Z3r ?_
   refine lhX rfl rfl rfl rfl ?_
   refine Z3r ?_
   refine lhX rfl rfl rfl rfl ?_
   refine Z3r ?_
   refine lhX rfl rfl rfl rfl ?_
   (refine Z3r ?_;(repeat first | (refine oRX hq.h rfl rfl rfl rfl rfl rfl rfl rfl ?_;refine Z3r ?_)))
   exact ez (ids:=[0]) rfl (ka (ch:=c1::ch1) (en:=y.en) rfl rfl rfl rfl) rfl rfl rfl
theorem tP (a e1 e2 e3:Ce) (bd:List Cm) (os:List Nat) (T:Ty) (b:Nat) (ts:List Nat) (KF:FOK ⟨[a,e1,e2,e3],bd.map Cm.d,os,T,b,ts⟩) (hbd : ∀ c∈bd,Ok 4 W0 4 c) (h8:bd.length<=8) (ht:(Cm.tbs bd).length<=ts.length) (y:X) (hy:(Cm.exs [a,e1,e2,e3] (Fix.q ⟨[a,e1,e2,e3],bd.map Cm.d,os,T,b,ts⟩) bd (x0 [a,e1,e2,e3])).1=y) :
 Ret VP (.fn 38) [.d (moD 0 [a,e1,e2,e3] bd os T),.func 441 [.ptr 0 0 0 0] []] [some (rdB b ts 0)] (.d (.tuple [trD y,.int .i64 0])) [some (rdB b ts y.tk)]:=by
 have h1:=tf
 have hx:=(hX ⟨[a,e1,e2,e3],bd.map Cm.d,os,T,b,ts⟩ KF 4).1 bd hbd h8 (x0 [a,e1,e2,e3]) (nj ⟨[a,e1,e2,e3],bd.map Cm.d,os,T,b,ts⟩) (by show 0+(Cm.tbs bd).length<=ts.length;omega) rfl
 dsimp only at hx
 rw [hy] at hx
 generalize (Cm.exs [a,e1,e2,e3] (Fix.q ⟨[a,e1,e2,e3],bd.map Cm.d,os,T,b,ts⟩) bd (x0 [a,e1,e2,e3])).2=ok at hx
 have ca:=bI a (KF.hcs a (by simp)) 0
 have ce1:=bI e1 (KF.hcs e1 (by simp)) 0
 have ce2:=bI e2 (KF.hcs e2 (by simp)) 0
 have ce3:=bI e3 (KF.hcs e3 (by simp)) 0
 rcases hz:y.ch with _ | ⟨c1,ch1⟩
 · rw [hz] at hx
   replace hx:Ret VP (.fn 67) [.ptr 0 0 0 0,.d (.slice (bd.map Cm.d))] (sN ⟨[a,e1,e2,e3],bd.map Cm.d,os,T,b,ts⟩ (x0 [a,e1,e2,e3])) (.d (.bool ok)) (sN ⟨[a,e1,e2,e3],bd.map Cm.d,os,T,b,ts⟩ y):=hx
   have hq:=Hd.mk hx
   clear hx
   have e:trD y = .agg [.slice [],.slice [ct y.m],.slice (y.st.map iD),.int .i64 y.en]:=by unfold trD;rw [hz];rfl
   rw [e]
   refine ret_of rfl rfl (r0 ?_)
   refine Z3r ?_
   refine lhX rfl rfl rfl rfl ?_
   refine Z3r ?_
   refine lhX rfl rfl rfl rfl ?_
   refine Z3r ?_
   refine lhX rfl rfl rfl rfl ?_
   refine Z3r ?_
   refine lhX rfl rfl rfl rfl ?_
   refine Z3r ?_
   refine lhX rfl rfl rfl rfl ?_
   (refine Z3r ?_;(repeat first | (refine oRX hq.h rfl rfl rfl rfl rfl rfl rfl rfl ?_;refine Z3r ?_)))
   exact ez (ids:=[0]) rfl (kc (en:=y.en) rfl rfl) rfl rfl rfl
 · rw [hz] at hx
   replace hx:Ret VP (.fn 67) [.ptr 0 0 0 0,.d (.slice (bd.map Cm.d))] (sN ⟨[a,e1,e2,e3],bd.map Cm.d,os,T,b,ts⟩ (x0 [a,e1,e2,e3])) (.d (.bool ok)) (sA ⟨[a,e1,e2,e3],bd.map Cm.d,os,T,b,ts⟩ y c1 ch1):=hx
   have hq:=Hd.mk hx
   clear hx
   have e:trD y = .agg [.slice ((c1::ch1).map chD),.slice [ct y.m],.slice (y.st.map iD),.int .i64 y.en]:=by unfold trD;rw [hz]
   rw [e]
   refine ret_of rfl rfl (r0 ?_)
   refine Z3r ?_
   refine lhX rfl rfl rfl rfl ?_
   refine Z3r ?_
   refine lhX rfl rfl rfl rfl ?_
   refine Z3r ?_
   refine lhX rfl rfl rfl rfl ?_
   refine Z3r ?_
   refine lhX rfl rfl rfl rfl ?_
   refine Z3r ?_
   refine lhX rfl rfl rfl rfl ?_
   (refine Z3r ?_;(repeat first | (refine oRX hq.h rfl rfl rfl rfl rfl rfl rfl rfl ?_;refine Z3r ?_)))
   exact ez (ids:=[0]) rfl (ka (ch:=c1::ch1) (en:=y.en) rfl rfl rfl rfl) rfl rfl rfl
theorem po {cs:List Ce} (h1:1<=cs.length) (h4:cs.length<=4) (bd:List Cm) (os:List Nat) (T:Ty) (b:Nat) (ts:List Nat) (KF:FOK ⟨cs,bd.map Cm.d,os,T,b,ts⟩) (hbd : ∀ c∈bd,Ok cs.length W0 4 c) (h8:bd.length<=8) (ht:(Cm.tbs bd).length<=ts.length) (y:X) (hy:(Cm.exs cs (Fix.q ⟨cs,bd.map Cm.d,os,T,b,ts⟩) bd (x0 cs)).1=y) :
 Ret VP (.fn 38) [.d (moD 0 cs bd os T),.func 441 [.ptr 0 0 0 0] []] [some (rdB b ts 0)] (.d (.tuple [trD y,.int .i64 0])) [some (rdB b ts y.tk)]:=by
 match cs,h1,h4,KF,hbd,hy with
 | [a],_,_,KF,hbd,hy=>exact tS a bd os T b ts KF hbd h8 ht y hy
 | [a,c],_,_,KF,hbd,hy=>exact tR a c bd os T b ts KF hbd h8 ht y hy
 | [a,c,d],_,_,KF,hbd,hy=>exact tQ a c d bd os T b ts KF hbd h8 ht y hy
 | [a,c,d,e],_,_,KF,hbd,hy=>exact tP a c d e bd os T b ts KF hbd h8 ht y hy
noncomputable def runX (cs:List Ce) (l:List Cm) (b:Nat) (ts:List Nat):X:=(Cm.exs cs (fun n=>mkRat (ts.getD n 0:Nat) b) l (x0 cs)).1
theorem jw {cs:List Ce} {l:List Cm} {os:List Nat} {es:List Ce} (G:GoodM cs l os es) (b:Nat) (ts:List Nat) (hb1:1<=b) (hb:b<=1000) (hall : ∀ t∈ts,t < b) (h6:ts.length<=6) (ht:(Cm.tbs (Cm.nums l 0).1).length<=ts.length) :
 Ret VP (.fn 434) [.d (moD 0 cs (Cm.nums l 0).1 os (dY es)),.d (.int .i64 b),.d (.slice (ts.map oD))] [] (.d (.tuple [trD (runX cs (Cm.nums l 0).1 b ts),.int .i64 (runX cs (Cm.nums l 0).1 b ts).tk,.int .i64 0])) []:=by
 have h1:=rN G b hb1 hb
 have KF:FOK ⟨cs,(Cm.nums l 0).1.map Cm.d,os,dY es,b,ts⟩:=⟨G.hcs,hb,hall,h6⟩
 have h2:=po G.h1 G.h4 (Cm.nums l 0).1 os (dY es) b ts KF G.num.hl G.num.h8 ht (runX cs (Cm.nums l 0).1 b ts) rfl
 generalize runX cs (Cm.nums l 0).1 b ts=y at h2 ⊢
 unfold trD at h2 ⊢
 have h3:Ret VP (.fn 440) [.d (moD 0 cs (Cm.nums l 0).1 os (dY es)),.func 441 [.ptr 0 0 0 0] []] [some (rdB b ts 0)] (.d (.tuple [.agg [.slice (y.ch.map chD),.slice [ct y.m],.slice (y.st.map iD),.int .i64 y.en],.int .i64 0])) [some (rdB b ts y.tk)]:=by
  refine ret_of rfl rfl (r0 ?_)
  refine Z1 ?_
  rfl
 have h4:Ret VP (.fn 437) [.d (moD 0 cs (Cm.nums l 0).1 os (dY es)),.d (.int .i64 b),.d (.slice (ts.map oD))] [] (.d (.tuple [.agg [.slice (y.ch.map chD),.slice [ct y.m],.slice (y.st.map iD),.int .i64 y.en],.int .i64 y.tk,.int .i64 0])) []:=by
  refine ret_of rfl rfl (r0 ?_)
  refine Z1 ?_
  rfl
 refine ret_of rfl rfl (r0 ?_)
 refine Z1 ?_
 rfl
theorem a4K (F:Fix):InvX F (x0 F.cs):=⟨by simp [x0],by simp [x0],by simp [x0],by simp [x0],by simp [x0]⟩
theorem a4I {cs:List Ce} {l:List Cm} {os:List Nat} {es:List Ce} (G:GoodM cs l os es) (b:Nat) (ts:List Nat) (hb:b<=1000) (hall : ∀ t∈ts,t < b) (h6:ts.length<=6) (ht:(Cm.tbs (Cm.nums l 0).1).length<=ts.length):(runX cs (Cm.nums l 0).1 b ts).ch.length<=6/\(runX cs (Cm.nums l 0).1 b ts).st.length=cs.length:=by
 have KF:FOK ⟨cs,(Cm.nums l 0).1.map Cm.d,os,dY es,b,ts⟩:=⟨G.hcs,hb,hall,h6⟩
 have I0:=a4K ⟨cs,(Cm.nums l 0).1.map Cm.d,os,dY es,b,ts⟩
 have tk0:(x0 cs).tk=0:=rfl
 have A:=iU KF 4 (Cm.nums l 0).1 G.num.hl (x0 cs) I0 (by rw [tk0];show 0+_<=ts.length;omega)
 have h1:=A.inv.hch
 have h2:=A.inv.hst
 have h3:=A.hi
 rw [tk0] at h3
 refine ⟨?_,h2⟩
 have h4:(runX cs (Cm.nums l 0).1 b ts).ch.length=(runX cs (Cm.nums l 0).1 b ts).tk:=h1
 have h5:(runX cs (Cm.nums l 0).1 b ts).tk<=0+(Cm.tbs (Cm.nums l 0).1).length:=h3
 omega
def sb (L:List Int) (a s:Nat):Option Blk:=some (.rows 0 false 3 [[.d (.slice (L.map iD)),.d (.int .i64 a),.d (.int .i64 s)]])
theorem vW (L:List Int) (hl:L.length<=1000) (a s:Nat) (ha:a<=L.length) : ∃ (x:Int) (b:Nat),b<=L.length/\Ret VP (.fn 25) [.ptr 0 0 0 0] [sb L a s] (.d (.int .i64 x)) [sb L b s]:=by
 by_cases hc:a=L.length
 · refine ⟨0,a,ha,?_⟩
   have t:((a:Int)>=(((L.map iD).length:Nat):Int)):=by rw [List.length_map];omega
   unfold sb
   refine ret_of rfl rfl (r0 ?_)
   (have hz1:=decide_eq_true t;refine Z2 ?_)
   rfl
 · refine ⟨L[a]'(by omega),a+1,by omega,?_⟩
   have t:¬ ((a:Int)>=(((L.map iD).length:Nat):Int)):=by rw [List.length_map];omega
   have hw:=ac a (by omega)
   have hw2:IntKind.i64.wrap (((a+1:Nat):Int) - 1)=(a:Int):=by rw [i64_in]<;>omega
   have hg:(L.map iD)[a]?=some (iD (L[a]'(by omega))):=by rw [List.getElem?_map,List.getElem?_eq_getElem (by omega)];rfl
   unfold sb
   refine ret_of rfl rfl (r0 ?_)
   (have hz2:=decide_eq_false t;refine Z1 ?_)
   rw [hw]
   (have hz3:=decide_eq_false t;refine Z1 ?_)
   rw [hw2]
   refine Z1 ?_
   rfl
theorem bO (L:List Int) (hl:L.length<=1000) (n:Nat) (hn:1<=n) (hn2:n<=1000) (a s:Nat) (ha:a<=L.length) : ∃ (x b:Nat),x < n/\b<=L.length/\Ret VP (.fn 12) [.ptr 0 0 0 0,.d (.int .i64 n)] [sb L a s] (.d (.int .i64 x)) [sb L b s]:=by
 obtain ⟨x,b,hb,hr⟩:=vW L hl a s ha
 have t:¬ (n:Int) < 1:=by omega
 have n0:(n:Int)≠0:=by omega
 have l1:Int.tmod x n < n:=Int.tmod_lt_of_pos _ (by omega)
 have l2 : -(n:Int) < Int.tmod x n:=by
  have h3:Int.tmod (-x) n < n:=Int.tmod_lt_of_pos _ (by omega)
  rw [Int.neg_tmod] at h3
  omega
 unfold sb at hr ⊢
 by_cases h:Int.tmod x n < 0
 · refine ⟨(Int.tmod x n+n).toNat,b,by omega,hb,?_⟩
   have hw:IntKind.i64.wrap (Int.tmod x n+n)=((Int.tmod x n+n).toNat:Int):=by rw [i64_in]<;>omega
   refine ret_of rfl rfl (r0 ?_)
   (have hz4:=decide_eq_false t;have hz5:=decide_eq_true h;refine Z2 ?_)
   exact fe rfl (dI hw) rfl
 · refine ⟨(Int.tmod x n).toNat,b,by omega,hb,?_⟩
   have hw:Int.tmod x n=((Int.tmod x n).toNat:Int):=by omega
   refine ret_of rfl rfl (r0 ?_)
   (have hz6:=decide_eq_false t;have hz7:=decide_eq_false h;refine Z2 ?_)
   exact fe rfl (dI hw) rfl
theorem aT (L:List Int) (hl:L.length<=1000) (lo hi:Int) (n:Nat) (hn:hi - lo+1=n) (hn1:1<=n) (hn2:n<=1000) (h1 : -1000<=lo) (h2:hi<=1000) (a s:Nat) (ha:a<=L.length) : ∃ (x b:Nat),x < n/\b<=L.length/\Ret VP (.fn 8) [.ptr 0 0 0 0,.d (.int .i64 lo),.d (.int .i64 hi)] [sb L a s] (.d (.int .i64 (lo+x))) [sb L b s]:=by
 obtain ⟨x,b,hx,hb,hr⟩:=bO L hl n hn1 hn2 a s ha
 refine ⟨x,b,hx,hb,?_⟩
 have hw:IntKind.i64.wrap (IntKind.i64.wrap (hi - lo)+1)=(n:Int):=by
  have e1:IntKind.i64.wrap (hi - lo)=hi - lo:=by rw [i64_in]<;>omega
  rw [e1,i64_in]<;>omega
 rw [<- hw] at hr
 unfold sb at hr ⊢
 refine ret_of rfl rfl (r0 ?_)
 refine Z2 ?_
 refine fe rfl (dI ?_) rfl
 rw [i64_in]<;>omega
theorem iF (L:List Int) (hl:L.length<=1000) (l:List Int) (h0:1<=l.length) (h1:l.length<=1000) (a s:Nat) (ha:a<=L.length) : ∃ (x:Int) (b:Nat),x∈l/\b<=L.length/\Ret VP (.fn 26) [.ptr 0 0 0 0,.d (.slice (l.map iD))] [sb L a s] (.d (.int .i64 x)) [sb L b s]:=by
 obtain ⟨x,b,hx,hb,hr⟩:=bO L hl l.length h0 h1 a s ha
 refine ⟨l[x],b,List.getElem_mem hx,hb,?_⟩
 rw [<- List.length_map (f:=iD)] at hr
 have hg:(l.map iD)[x]?=some (iD l[x]):=by rw [List.getElem?_map,List.getElem?_eq_getElem hx];rfl
 unfold sb at hr ⊢
 refine ret_of rfl rfl (r0 ?_)
 refine Z2 ?_
 rfl
def aO (n:Nat):List Int:=(List.range n).map fun (i:Nat)=>(i:Int)
theorem j9 (n:Nat) (h1:1<=n) (h4:n<=4):Ret VP (.fn 14) [.d (.int .i64 n)] [] (.d (.slice ((aO n).map iD))) []:=by
 rcases (by omega:n=1\/n=2\/n=3\/n=4) with rfl | rfl | rfl | rfl
 all_goals (refine ret_of rfl rfl (r0 ?_);refine Z2 ?_;rfl)
theorem nn {n:Nat} {x:Int} (h:x∈aO n) : ∃ v:Nat,v < n/\x=v:=by
 obtain ⟨v,hv,rfl⟩:=List.mem_map.1 h
 exact ⟨v,List.mem_range.1 hv,rfl⟩
def si (L:List Int) (n d z:Nat):Prop := ∀ a s:Nat,a<=L.length -> ∃ (f:Fo) (b:Nat),FOk n f/\f.dp<=d/\f.sz<=z/\b<=L.length/\Ret VP (.fn 13) [.ptr 0 0 0 0,.d (.slice ((aO n).map iD)),.d (.int .i64 d)] [sb L a s] (.d f.d) [sb L b s]
theorem eF (n:Nat):(aO n).length=n:=by simp [aO]
theorem abA (L:List Int) (hl:L.length<=1000) (n:Nat) (h1:1<=n) (h4:n<=4):si L n 1 1:=by
 intro a s ha
 obtain ⟨k0,b0,hk0,hb0,r0'⟩:=bO L hl 14 (by omega) (by omega) a s ha
 obtain ⟨k,b1,hk,hb1,r1⟩:=bO L hl 4 (by omega) (by omega) b0 s hb0
 by_cases h0:k=0
 · subst h0
   obtain ⟨x,b2,hx,hb2,r2⟩:=aT L hl (-1) 3 5 (by omega) (by omega) (by omega) (by omega) (by omega) b1 s hb1
   refine ⟨.int (-1+x),b2,⟨by omega,by omega⟩,by simp [Fo.dp],by simp [Fo.sz],hb2,?_⟩
   unfold sb at r0' r1 r2 ⊢
   refine ret_of rfl rfl (r0 ?_)
   refine Z2 ?_
   rfl
 · obtain ⟨x,b2,hx,hb2,r2⟩:=iF L hl (aO n) (by rw [eF];omega) (by rw [eF];omega) b1 s hb1
   obtain ⟨v,hv,rfl⟩:=nn hx
   refine ⟨.var v,b2,hv,by simp [Fo.dp],by simp [Fo.sz],hb2,?_⟩
   have t1:((k:Int)==0)=false:=by simp;omega
   have t2:(k:Int) < 4:=by omega
   have t3:(((((aO n).map iD).length:Nat):Int)==0)=false:=by rw [List.length_map,eF];simp;omega
   unfold sb at r0' r1 r2 ⊢
   refine ret_of rfl rfl (r0 ?_)
   (have hz8:=decide_eq_true t2;refine Z2 ?_)
   rfl
theorem IW (L:List Int) (hl:L.length<=1000) (n:Nat) (h1:1<=n) (h4:n<=4) (d z:Nat) (hd:1<=d) (hd2:d<=10) (ih:si L n d z):si L n (d+1) (3*z+1):=by
 intro a s ha
 obtain ⟨k,b1,hk,hb1,r1⟩:=bO L hl 14 (by omega) (by omega) a s ha
 have td:¬ ((d+1:Nat):Int)<=1:=by omega
 have hwd:IntKind.i64.wrap (((d+1:Nat):Int) - 1)=(d:Int):=by rw [i64_in]<;>omega
 by_cases h0:k=0
 · subst h0
   obtain ⟨x,b2,hx,hb2,r2⟩:=aT L hl (-1) 3 5 (by omega) (by omega) (by omega) (by omega) (by omega) b1 s hb1
   refine ⟨.int (-1+x),b2,⟨by omega,by omega⟩,by simp [Fo.dp],by simp [Fo.sz],hb2,?_⟩
   unfold sb at r1 r2 ⊢
   refine ret_of rfl rfl (r0 ?_)
   (have hz9:=decide_eq_false td;refine Z2 ?_)
   rfl
 by_cases h3:k < 4
 · obtain ⟨x,b2,hx,hb2,r2⟩:=iF L hl (aO n) (by rw [eF];omega) (by rw [eF];omega) b1 s hb1
   obtain ⟨v,hv,rfl⟩:=nn hx
   refine ⟨.var v,b2,hv,by simp [Fo.dp],by simp [Fo.sz],hb2,?_⟩
   have t1:((k:Int)==0)=false:=by simp;omega
   have t2:(k:Int) < 4:=by omega
   have t3:(((((aO n).map iD).length:Nat):Int)==0)=false:=by rw [List.length_map,eF];simp;omega
   unfold sb at r1 r2 ⊢
   refine ret_of rfl rfl (r0 ?_)
   (have hz10:=decide_eq_true t2;have hz11:=decide_eq_false td;refine Z2 ?_)
   rfl
 obtain ⟨f1,b2,o1,d1,z1,hb2,r2⟩:=ih b1 s hb1
 obtain ⟨f2,b3,o2,d2,z2,hb3,r3⟩:=ih b2 s hb2
 obtain ⟨f3,b4,o3,d3,z3,hb4,r4⟩:=ih b3 s hb3
 rw [<- hwd] at r2 r3 r4
 unfold sb at r1 r2 r3 r4 ⊢
 rcases (by omega:k=4\/k=5\/k=6\/k=7\/k=8\/k=9\/k=10\/k=11\/k=12\/k=13) with rfl | rfl | rfl | rfl | rfl | rfl | rfl | rfl | rfl | rfl
 · refine ⟨.no f1,b2,o1,by simp [Fo.dp];omega,by simp [Fo.sz];omega,hb2,?_⟩
   refine ret_of rfl rfl (r0 ?_)
   (have hz12:=decide_eq_false td;refine Z2 ?_)
   rfl
 · refine ⟨.cond f1 f2 f3,b4,⟨o1,o2,o3⟩,by simp [Fo.dp];omega,by simp [Fo.sz];omega,hb4,?_⟩
   refine ret_of rfl rfl (r0 ?_)
   (have hz13:=decide_eq_false td;refine Z2 ?_)
   rfl
 · refine ⟨.bin 5 f1 f2,b3,⟨by omega,o1,o2⟩,by simp [Fo.dp];omega,by simp [Fo.sz];omega,hb3,?_⟩
   refine ret_of rfl rfl (r0 ?_)
   (have hz14:=decide_eq_false td;refine Z2 ?_)
   rfl
 · refine ⟨.bin 6 f1 f2,b3,⟨by omega,o1,o2⟩,by simp [Fo.dp];omega,by simp [Fo.sz];omega,hb3,?_⟩
   refine ret_of rfl rfl (r0 ?_)
   (have hz15:=decide_eq_false td;refine Z2 ?_)
   rfl
 · refine ⟨.bin 7 f1 f2,b3,⟨by omega,o1,o2⟩,by simp [Fo.dp];omega,by simp [Fo.sz];omega,hb3,?_⟩
   refine ret_of rfl rfl (r0 ?_)
   (have hz16:=decide_eq_false td;refine Z2 ?_)
   rfl
 · refine ⟨.bin 8 f1 f2,b3,⟨by omega,o1,o2⟩,by simp [Fo.dp];omega,by simp [Fo.sz];omega,hb3,?_⟩
   refine ret_of rfl rfl (r0 ?_)
   (have hz17:=decide_eq_false td;refine Z2 ?_)
   rfl
 · refine ⟨.bin 9 f1 f2,b3,⟨by omega,o1,o2⟩,by simp [Fo.dp];omega,by simp [Fo.sz];omega,hb3,?_⟩
   refine ret_of rfl rfl (r0 ?_)
   (have hz18:=decide_eq_false td;refine Z2 ?_)
   rfl
 · refine ⟨.bin 10 f1 f2,b3,⟨by omega,o1,o2⟩,by simp [Fo.dp];omega,by simp [Fo.sz];omega,hb3,?_⟩
   refine ret_of rfl rfl (r0 ?_)
   (have hz19:=decide_eq_false td;refine Z2 ?_)
   rfl
 · refine ⟨.bin 11 f1 f2,b3,⟨by omega,o1,o2⟩,by simp [Fo.dp];omega,by simp [Fo.sz];omega,hb3,?_⟩
   refine ret_of rfl rfl (r0 ?_)
   (have hz20:=decide_eq_false td;refine Z2 ?_)
   rfl
 · refine ⟨.bin 12 f1 f2,b3,⟨by omega,o1,o2⟩,by simp [Fo.dp];omega,by simp [Fo.sz];omega,hb3,?_⟩
   refine ret_of rfl rfl (r0 ?_)
   (have hz21:=decide_eq_false td;refine Z2 ?_)
   rfl
theorem wT (L:List Int) (hl:L.length<=1000) (n:Nat) (h1:1<=n) (h4:n<=4):si L n 2 4:=IW L hl n h1 h4 1 1 (by omega) (by omega) (abA L hl n h1 h4)
theorem wS (L:List Int) (hl:L.length<=1000) (n:Nat) (h1:1<=n) (h4:n<=4):si L n 3 13:=IW L hl n h1 h4 2 4 (by omega) (by omega) (wT L hl n h1 h4)
def chs:List D:=[uZ,(lit 1 1),(lit 1 2),(lit 1 3),(lit 2 3),(lit 1 4),(lit 3 4),(lit 1 5),(lit 2 5),(lit 3 5),(lit 4 5)]
theorem pL (L:List Int) (hl:L.length<=1000) (a s:Nat) (ha:a<=L.length) : ∃ (r:D) (b:Nat),r∈chs/\b<=L.length/\Ret VP (.fn 76) [.ptr 0 0 0 0] [sb L a s] (.d r) [sb L b s]:=by
 obtain ⟨x,b1,hx,hb1,r1⟩:=aT L hl 1 5 5 (by omega) (by omega) (by omega) (by omega) (by omega) a s ha
 rcases (by omega:x=0\/x=1\/x=2\/x=3\/x=4) with rfl | rfl | rfl | rfl | rfl
 · obtain ⟨n,b2,hn,hb2,r2⟩:=bO L hl 2 (by omega) (by omega) b1 s hb1
   unfold sb at r1 r2 ⊢
   rcases (by omega:n=0\/n=1) with rfl | rfl
   · refine ⟨uZ,b2,by simp [chs],hb2,?_⟩
     refine ret_of rfl rfl (r0 ?_)
     (have hz1:=aNC;refine Z2 ?_)
     rfl
   · refine ⟨(lit 1 1),b2,by simp [chs],hb2,?_⟩
     refine ret_of rfl rfl (r0 ?_)
     (have hz2:=aN8;refine Z2 ?_)
     rfl
 · obtain ⟨n,b2,hn,hb2,r2⟩:=bO L hl 3 (by omega) (by omega) b1 s hb1
   unfold sb at r1 r2 ⊢
   rcases (by omega:n=0\/n=1\/n=2) with rfl | rfl | rfl
   · refine ⟨uZ,b2,by simp [chs],hb2,?_⟩
     refine ret_of rfl rfl (r0 ?_)
     (have hz3:=aN4;refine Z2 ?_)
     rfl
   · refine ⟨(lit 1 2),b2,by simp [chs],hb2,?_⟩
     refine ret_of rfl rfl (r0 ?_)
     (have hz4:=aQ0;refine Z2 ?_)
     rfl
   · refine ⟨(lit 1 1),b2,by simp [chs],hb2,?_⟩
     refine ret_of rfl rfl (r0 ?_)
     (have hz5:=aLR;refine Z2 ?_)
     rfl
 · obtain ⟨n,b2,hn,hb2,r2⟩:=bO L hl 4 (by omega) (by omega) b1 s hb1
   unfold sb at r1 r2 ⊢
   rcases (by omega:n=0\/n=1\/n=2\/n=3) with rfl | rfl | rfl | rfl
   · refine ⟨uZ,b2,by simp [chs],hb2,?_⟩
     refine ret_of rfl rfl (r0 ?_)
     (have hz6:=aLP;refine Z2 ?_)
     rfl
   · refine ⟨(lit 1 3),b2,by simp [chs],hb2,?_⟩
     refine ret_of rfl rfl (r0 ?_)
     (have hz7:=aJG;refine Z2 ?_)
     rfl
   · refine ⟨(lit 2 3),b2,by simp [chs],hb2,?_⟩
     refine ret_of rfl rfl (r0 ?_)
     (have hz8:=aLO;refine Z2 ?_)
     rfl
   · refine ⟨(lit 1 1),b2,by simp [chs],hb2,?_⟩
     refine ret_of rfl rfl (r0 ?_)
     (have hz9:=aLK;refine Z2 ?_)
     rfl
 · obtain ⟨n,b2,hn,hb2,r2⟩:=bO L hl 5 (by omega) (by omega) b1 s hb1
   unfold sb at r1 r2 ⊢
   rcases (by omega:n=0\/n=1\/n=2\/n=3\/n=4) with rfl | rfl | rfl | rfl | rfl
   · refine ⟨uZ,b2,by simp [chs],hb2,?_⟩
     refine ret_of rfl rfl (r0 ?_)
     (have hz10:=aLB;refine Z2 ?_)
     rfl
   · refine ⟨(lit 1 4),b2,by simp [chs],hb2,?_⟩
     refine ret_of rfl rfl (r0 ?_)
     (have hz11:=azK;refine Z2 ?_)
     rfl
   · refine ⟨(lit 1 2),b2,by simp [chs],hb2,?_⟩
     refine ret_of rfl rfl (r0 ?_)
     (have hz12:=aL9;refine Z2 ?_)
     rfl
   · refine ⟨(lit 3 4),b2,by simp [chs],hb2,?_⟩
     refine ret_of rfl rfl (r0 ?_)
     (have hz13:=aL8;refine Z2 ?_)
     rfl
   · refine ⟨(lit 1 1),b2,by simp [chs],hb2,?_⟩
     refine ret_of rfl rfl (r0 ?_)
     (have hz14:=aL4;refine Z2 ?_)
     rfl
 · obtain ⟨n,b2,hn,hb2,r2⟩:=bO L hl 6 (by omega) (by omega) b1 s hb1
   unfold sb at r1 r2 ⊢
   rcases (by omega:n=0\/n=1\/n=2\/n=3\/n=4\/n=5) with rfl | rfl | rfl | rfl | rfl | rfl
   · refine ⟨uZ,b2,by simp [chs],hb2,?_⟩
     refine ret_of rfl rfl (r0 ?_)
     (have hz15:=aKU;refine Z2 ?_)
     rfl
   · refine ⟨(lit 1 5),b2,by simp [chs],hb2,?_⟩
     refine ret_of rfl rfl (r0 ?_)
     (have hz16:=aKT;refine Z2 ?_)
     rfl
   · refine ⟨(lit 2 5),b2,by simp [chs],hb2,?_⟩
     refine ret_of rfl rfl (r0 ?_)
     (have hz17:=aKO;refine Z2 ?_)
     rfl
   · refine ⟨(lit 3 5),b2,by simp [chs],hb2,?_⟩
     refine ret_of rfl rfl (r0 ?_)
     (have hz18:=aKJ;refine Z2 ?_)
     rfl
   · refine ⟨(lit 4 5),b2,by simp [chs],hb2,?_⟩
     refine ret_of rfl rfl (r0 ?_)
     (have hz19:=aKF;refine Z2 ?_)
     rfl
   · refine ⟨(lit 1 1),b2,by simp [chs],hb2,?_⟩
     refine ret_of rfl rfl (r0 ?_)
     (have hz20:=aJF;refine Z2 ?_)
     rfl
theorem kT (L:List Int) (hl:L.length<=1000) (a s:Nat) (ha:a<=L.length) : ∃ (w:List D) (b:Nat),w∈W0/\b<=L.length/\Ret VP (.fn 46) [.ptr 0 0 0 0,.d (.int .i64 0)] [sb L a s] (.d (.slice w)) [sb L b s]:=by
 obtain ⟨k,b0,hk,hb0,r0'⟩:=bO L hl 4 (by omega) (by omega) a s ha
 by_cases h0:k=0
 · subst h0
   obtain ⟨x,b1,hx,hb1,r1⟩:=aT L hl 2 4 3 (by omega) (by omega) (by omega) (by omega) (by omega) b0 s hb0
   obtain ⟨y,b2,hy,hb2,r2⟩:=aT L hl 1 2 2 (by omega) (by omega) (by omega) (by omega) (by omega) b1 s hb1
   unfold sb at r0' r1 r2 ⊢
   rcases (by omega:x=0\/x=1\/x=2) with rfl | rfl | rfl<;>rcases (by omega:y=0\/y=1) with rfl | rfl
   · refine ⟨w0,b2,by simp [W0],hb2,?_⟩
     refine ret_of rfl rfl (r0 ?_)
     (have hz21:=asW;have hz22:=aQ0;have hz23:=ua0;have hz24:=aV0;have hz25:=aP8;have hz26:=aNZ;have hz27:=aUX;refine Z2 ?_)
     rfl
   · refine ⟨w1,b2,by simp [W0],hb2,?_⟩
     refine ret_of rfl rfl (r0 ?_)
     (have hz28:=asW;have hz29:=aQ0;have hz30:=ax7;have hz31:=aUW;have hz32:=aP8;have hz33:=aHM;have hz34:=aNZ;have hz35:=aUU;refine Z2 ?_)
     rfl
   · refine ⟨w2,b2,by simp [W0],hb2,?_⟩
     refine ret_of rfl rfl (r0 ?_)
     (have hz36:=asW;have hz37:=aJG;have hz38:=ua0;have hz39:=aUT;have hz40:=aJE;have hz41:=azN;have hz42:=aQI;refine Z2 ?_)
     rfl
   · refine ⟨w3,b2,by simp [W0],hb2,?_⟩
     refine ret_of rfl rfl (r0 ?_)
     (have hz43:=asW;have hz44:=aJG;have hz45:=ax7;have hz46:=aQH;have hz47:=aJE;have hz48:=aQG;have hz49:=azN;have hz50:=aQD;refine Z2 ?_)
     rfl
   · refine ⟨w4,b2,by simp [W0],hb2,?_⟩
     refine ret_of rfl rfl (r0 ?_)
     (have hz51:=asW;have hz52:=azK;have hz53:=ua0;have hz54:=aQC;have hz55:=aHM;have hz56:=azI;have hz57:=aQ7;refine Z2 ?_)
     rfl
   · refine ⟨w5,b2,by simp [W0],hb2,?_⟩
     refine ret_of rfl rfl (r0 ?_)
     (have hz58:=asW;have hz59:=azK;have hz60:=ax7;have hz61:=aNJ;have hz62:=aHM;have hz63:=aNH;have hz64:=azI;have hz65:=aND;refine Z2 ?_)
     rfl
 · obtain ⟨c,b1,hc,hb1,r1⟩:=pL L hl b0 s hb0
   have t:((k:Int)==0)=false:=by simp;omega
   unfold sb at r0' r1 ⊢
   simp only [chs,List.mem_cons,List.not_mem_nil,or_false] at hc
   rcases hc with rfl | rfl | rfl | rfl | rfl | rfl | rfl | rfl | rfl | rfl | rfl
   · refine ⟨w6,b1,by simp [W0],hb1,?_⟩
     refine ret_of rfl rfl (r0 ?_)
     (have hz66:=asW;have hz67:=aNB;have hz68:=aN9;refine Z2 ?_)
     rfl
   · refine ⟨w7,b1,by simp [W0],hb1,?_⟩
     refine ret_of rfl rfl (r0 ?_)
     (have hz69:=asW;have hz70:=ua9;have hz71:=aN6;refine Z2 ?_)
     rfl
   · refine ⟨w8,b1,by simp [W0],hb1,?_⟩
     refine ret_of rfl rfl (r0 ?_)
     (have hz72:=asW;have hz73:=aP8;have hz74:=aNZ;refine Z2 ?_)
     rfl
   · refine ⟨w9,b1,by simp [W0],hb1,?_⟩
     refine ret_of rfl rfl (r0 ?_)
     (have hz75:=asW;have hz76:=aJE;have hz77:=azN;refine Z2 ?_)
     rfl
   · refine ⟨w10,b1,by simp [W0],hb1,?_⟩
     refine ret_of rfl rfl (r0 ?_)
     (have hz78:=asW;have hz79:=aLN;have hz80:=aLL;refine Z2 ?_)
     rfl
   · refine ⟨w11,b1,by simp [W0],hb1,?_⟩
     refine ret_of rfl rfl (r0 ?_)
     (have hz81:=asW;have hz82:=aHM;have hz83:=azI;refine Z2 ?_)
     rfl
   · refine ⟨w12,b1,by simp [W0],hb1,?_⟩
     refine ret_of rfl rfl (r0 ?_)
     (have hz84:=asW;have hz85:=aL7;have hz86:=aL5;refine Z2 ?_)
     rfl
   · refine ⟨w13,b1,by simp [W0],hb1,?_⟩
     refine ret_of rfl rfl (r0 ?_)
     (have hz87:=asW;have hz88:=aKS;have hz89:=aKP;refine Z2 ?_)
     rfl
   · refine ⟨w14,b1,by simp [W0],hb1,?_⟩
     refine ret_of rfl rfl (r0 ?_)
     (have hz90:=asW;have hz91:=aKM;have hz92:=aKK;refine Z2 ?_)
     rfl
   · refine ⟨w15,b1,by simp [W0],hb1,?_⟩
     refine ret_of rfl rfl (r0 ?_)
     (have hz93:=asW;have hz94:=aKI;have hz95:=aKG;refine Z2 ?_)
     rfl
   · refine ⟨w16,b1,by simp [W0],hb1,?_⟩
     refine ret_of rfl rfl (r0 ?_)
     (have hz96:=asW;have hz97:=aKE;have hz98:=aKC;refine Z2 ?_)
     rfl
theorem qn (L:List Int) (hl:L.length<=1000) (a s:Nat) (ha:a<=L.length) : ∃ (lo:Int) (w:List D) (b:Nat),w∈W0 /\ -1<=lo/\lo<=1/\b<=L.length/\Ret VP (.fn 23) [.ptr 0 0 0 0,.d (.int .i64 0)] [sb L a s] (.d (dsD 1 lo w)) [sb L b s]:=by
 obtain ⟨lo,b1,hlo,hb1,r1⟩:=iF L hl [0,0,0,1,-1] (by simp) (by simp) a s ha
 obtain ⟨w,b2,hw,hb2,r2⟩:=kT L hl b1 s hb1
 refine ⟨lo,w,b2,hw,by simp at hlo;omega,by simp at hlo;omega,hb2,?_⟩
 unfold sb at r1 r2 ⊢
 refine ret_of rfl rfl (r0 ?_)
 refine Z2 ?_
 rfl
abbrev mdB (cs:List Ce) (os:List Nat) (T:Ty):Option Blk:=some (.rows 0 false 11 [[.d (.int .i64 (0:Nat)),.d (.slice (cs.map Ce.d)),.d (.slice []),.d (.slice []),.d (.slice []),.d (.slice (os.map oD)),.d (.int .i64 T.a),.d (.int .i64 T.b),.d (.int .i64 T.c),.d (.int .i64 T.d),.d (.slice T.e)]])
abbrev sbR (L:List Int) (a s:Nat):Option Blk:=some (.rows 0 false 3 [[.d (.slice (L.map iD)),.d (.int .i64 a),.d (.int .i64 s)]])
end Go.Proofs.YtemffeblbmimfaaGreat
