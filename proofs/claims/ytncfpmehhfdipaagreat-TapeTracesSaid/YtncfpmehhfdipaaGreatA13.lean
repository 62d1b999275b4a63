/- Modules in general: outcomes by the numbers of a tape. -/
import Derived.Test.YtncfpmehhfdipaaGreatA08
import Derived.Test.YtncfpmehhfdipaaGreatA11
import Derived.Test.YtncfpmehhfdipaaGreatA12
import Derived.KernelRfl
import Derived.Test.YtncfpmehhfdipaaGreatA06
set_option linter.unusedSimpArgs false
set_option linter.unusedVariables false
set_option linter.unnecessarySimpa false
namespace Go.Proofs.YtncfpmehhfdipaaGreat
open Go.IntWalk
attribute [local irreducible] au
set_option maxHeartbeats 4000000
set_option maxRecDepth 100000
def am8:D->Rat
 | .slice [.agg [_,_,_,_,_,_,_,_,_,.slice [.int _ n],.slice [.int _ d]]]=>mkRat n d.toNat
 | _=>0
def pkL:List Rat->Rat->Nat
 | [],_=>0
 | s::l,q=>if 0 < sgQ (s - q) then 0 else pkL l q+1
def bW:Rat->List D->List Rat
 | _,[]=>[]
 | s,p::l=>(s+am8 p)::bW (s+am8 p) l
def pk (w:List D) (q:Rat):Nat:=pkL (bW 0 w) q
def lit (n d:Int):D := .agg [.bool false,.slice [.int .u32 n],.slice [.int .u32 d]]
def uZ:D := .agg [.bool false,.slice [],.slice [.int .u32 1]]
theorem wB:qD (mkRat 0 1)=uZ:=by kernel_rfl
theorem bE:qD (mkRat 1 1)=lit 1 1:=by kernel_rfl
theorem kB:qD (mkRat 1 2)=lit 1 2:=by kernel_rfl
theorem mH:qD (mkRat 1 3)=lit 1 3:=by kernel_rfl
theorem mG:qD (mkRat 1 4)=lit 1 4:=by kernel_rfl
theorem wz:qD (mkRat 1 5)=lit 1 5:=by kernel_rfl
theorem q7:qD (mkRat 2 3)=lit 2 3:=by kernel_rfl
theorem wy:qD (mkRat 2 5)=lit 2 5:=by kernel_rfl
theorem mF:qD (mkRat 3 4)=lit 3 4:=by kernel_rfl
theorem wx:qD (mkRat 3 5)=lit 3 5:=by kernel_rfl
theorem ww:qD (mkRat 4 5)=lit 4 5:=by kernel_rfl
theorem wv:qD (mkRat 5 6)=lit 5 6:=by kernel_rfl
theorem wu:qD (mkRat 7 8)=lit 7 8:=by kernel_rfl
theorem Ju:D.agg (aR 1 1)=ct (mkRat 1 1):=by kernel_rfl
theorem Jt:D.agg (aR 1 2)=ct (mkRat 1 2):=by kernel_rfl
theorem Js:D.agg (aR 1 3)=ct (mkRat 1 3):=by kernel_rfl
theorem Jr:D.agg (aR 1 4)=ct (mkRat 1 4):=by kernel_rfl
theorem Jq:D.agg (aR 1 5)=ct (mkRat 1 5):=by kernel_rfl
theorem Jp:D.agg (aR 1 6)=ct (mkRat 1 6):=by kernel_rfl
theorem Jo:D.agg (aR 1 8)=ct (mkRat 1 8):=by kernel_rfl
theorem Jn:D.agg (aR 2 3)=ct (mkRat 2 3):=by kernel_rfl
theorem Jm:D.agg (aR 2 5)=ct (mkRat 2 5):=by kernel_rfl
theorem Jl:D.agg (aR 3 4)=ct (mkRat 3 4):=by kernel_rfl
theorem Jk:D.agg (aR 3 5)=ct (mkRat 3 5):=by kernel_rfl
theorem Jj:D.agg (aR 4 5)=ct (mkRat 4 5):=by kernel_rfl
theorem Ji:D.agg (aR 5 8)=ct (mkRat 5 8):=by kernel_rfl
def aaE (r:Rat):Prop:=r.num.natAbs<=8/\r.den<=8
def Wn (p:D):Prop := ∃ r:Rat,p = .slice [ct r]/\r≠0/\aaE r/\Ret VP (.fn 68) [.d p] [] (.d (.tuple [p,.int .i64 0])) []
theorem uI:Wn (pl 1 1):=⟨mkRat 1 1,by rw [<- Ju];rfl,by decide +kernel,by constructor<;>decide +kernel,aIO⟩
theorem ii:Wn (pl 1 2):=⟨mkRat 1 2,by rw [<- Jt];rfl,by decide +kernel,by constructor<;>decide +kernel,aUR⟩
theorem jn:Wn (pl 1 3):=⟨mkRat 1 3,by rw [<- Js];rfl,by decide +kernel,by constructor<;>decide +kernel,aUE⟩
theorem ig:Wn (pl 1 4):=⟨mkRat 1 4,by rw [<- Jr];rfl,by decide +kernel,by constructor<;>decide +kernel,aUK⟩
theorem uH:Wn (pl 1 5):=⟨mkRat 1 5,by rw [<- Jq];rfl,by decide +kernel,by constructor<;>decide +kernel,aII⟩
theorem Hn:Wn (pl 1 6):=⟨mkRat 1 6,by rw [<- Jp];rfl,by decide +kernel,by constructor<;>decide +kernel,aU5⟩
theorem Hm:Wn (pl 1 8):=⟨mkRat 1 8,by rw [<- Jo];rfl,by decide +kernel,by constructor<;>decide +kernel,aIS⟩
theorem uG:Wn (pl 2 3):=⟨mkRat 2 3,by rw [<- Jn];rfl,by decide +kernel,by constructor<;>decide +kernel,aIY⟩
theorem uF:Wn (pl 2 5):=⟨mkRat 2 5,by rw [<- Jm];rfl,by decide +kernel,by constructor<;>decide +kernel,aID⟩
theorem uE:Wn (pl 3 4):=⟨mkRat 3 4,by rw [<- Jl];rfl,by decide +kernel,by constructor<;>decide +kernel,aIM⟩
theorem uD:Wn (pl 3 5):=⟨mkRat 3 5,by rw [<- Jk];rfl,by decide +kernel,by constructor<;>decide +kernel,aIF⟩
theorem uC:Wn (pl 4 5):=⟨mkRat 4 5,by rw [<- Jj];rfl,by decide +kernel,by constructor<;>decide +kernel,aIK⟩
theorem Hl:Wn (pl 5 8):=⟨mkRat 5 8,by rw [<- Ji];rfl,by decide +kernel,by constructor<;>decide +kernel,aIW⟩
theorem bv {x:Int} (h:¬ 0 < x):decide (x > 0)=false:=decide_eq_false h
theorem aQ {x:Int} (h:0 < x):decide (x > 0)=true:=decide_eq_true h
theorem vM {r:Rat} (h:0 < r):0 < sgQ r:=by
 have h1:0 < r.num:=by
  have h2:0<=r.num:=Rat.num_nonneg.2 (Rat.le_of_lt h)
  have h3:r.num≠0:=fun h3=>by rw [Rat.num_eq_zero.1 h3] at h;exact absurd h (Rat.lt_irrefl)
  omega
 unfold sgQ
 rw [if_neg (by omega),if_neg (by omega)];decide
theorem vN {r:Rat} (h:r<=0):¬ 0 < sgQ r:=by
 have h1:¬ 0 < r.num:=fun h2=>by
  have h3:r=0:=Rat.le_antisymm h (Rat.num_nonneg.1 (by omega))
  rw [h3] at h2;exact absurd h2 (by decide)
 unfold sgQ
 split
 · omega
 · rw [if_pos (by omega)];decide
structure Frq (q:Rat):Prop where
 h0:0<=q
 h1:q < 1
 hf:fit 65536 q
theorem Frq.last {q:Rat} (h:Frq q):0 < sgQ (mkRat 1 1 - q):=vM (by
 have h1:=h.h1
 have e:(mkRat 1 1:Rat)=1:=by decide +kernel
 rw [e];grind)
theorem Frq.first {q:Rat} (h:Frq q):¬ 0 < sgQ (mkRat 0 1 - q):=vN (by
 have h1:=h.h0
 have e:(mkRat 0 1:Rat)=0:=by decide +kernel
 rw [e];grind)
def rdB (b:Nat) (ts:List Nat) (n:Nat):Blk := .rows 0 false 3 [[.d (.int .i64 b),.d (.slice (ts.map oD)),.d (.int .i64 n)]]
def qB (s:Rat):Bool:=decide (s.num < 0)
def qX (s:Rat):List D:=match qD s with | .agg [_,.slice x,_]=>x | _=>[]
def qY (s:Rat):List D:=match qD s with | .agg [_,_,.slice x]=>x | _=>[]
theorem vE (s:Rat):qD s = .agg [.bool (qB s),.slice (qX s),.slice (qY s)]:=rfl
def HT (s:Rat):Option Blk:=some (.rows 0 false 3 [[.d (.bool (qB s)),.d (.slice (qX s)),.d (.slice (qY s))]])
def sK (w:List D) (k:Nat):Rat:=(0::bW 0 w).getD k 0
theorem wf {q:Rat} : ∀ {S:List Rat},(∃ s∈S,0 < sgQ (s - q))->pkL S q < S.length
 | [],h=>by obtain ⟨s,hs,_⟩:=h;simp at hs
 | s::S,h=>by
   rw [pkL]
   split
   · simp
   · rename_i h0
     obtain ⟨u,hu,hq⟩:=h
     rcases List.mem_cons.1 hu with rfl | hu
     · exact absurd hq h0
     · have:=wf ⟨u,hu,hq⟩
       simp;omega
theorem vG {q:Rat} : ∀ {S:List Rat} {k:Nat},k < pkL S q->¬ 0 < sgQ (S.getD k 0 - q)
 | [],k,h=>by simp [pkL] at h
 | s::S,k,h=>by
   rw [pkL] at h
   split at h
   · omega
   · rename_i h0
     cases k with
     | zero=>simpa using h0
     | succ k=>simpa using vG (S:=S) (k:=k) (by omega)
theorem wg {q:Rat} : ∀ {S:List Rat},pkL S q < S.length->0 < sgQ (S.getD (pkL S q) 0 - q)
 | [],h=>by simp at h
 | s::S,h=>by
   rw [pkL] at h ⊢
   split
   · rename_i h0;simpa using h0
   · rename_i h0
     rw [if_neg h0] at h
     simpa using wg (S:=S) (by simpa using h)
theorem rv : ∀ (s:Rat) (w:List D),(bW s w).length=w.length
 | _,[]=>rfl
 | s,p::w=>by simp [bW,rv]
structure Tq (w:List D):Prop where
 h3:w.length<=3
 hl : ∃ s∈bW 0 w,s=mkRat 1 1
 hf : ∀ k,fit 65536 (sK w k)
 hv : ∀ k p,w[k]?=some p->sK w k≠mkRat 1 1->(∃ e,p = .slice e) /\ ∃ (a0:Bool) (a1 a2:List D),Ret VP (.fn 443) [.d p] [] (.d (.agg [.bool a0,.slice a1,.slice a2])) []/\Ret VP (.fn 156) [.d (qD (sK w k)),.d (.agg [.bool a0,.slice a1,.slice a2])] [] (.d (qD (sK w (k+1)))) []
 hw : ∀ k p,w[k]?=some p->Wn p\/sK w (k+1)=sK w k
theorem wj (v s:Int) (lo:Int) (b:Nat) (ts:List Nat) (n t:Nat) (q:Rat) (hq:Frq q) (ht:ts[n]?=some t) (htb:t < b) (hb:b<=1000) (hn:n < 1000) (hlen:n < ts.length) (hnew:Ret VP (.fn 442) [.d (.int .i64 t),.d (.int .i64 b)] [] (.d (.tuple [qD q,.int .i64 0])) []) {w:List D} (T:Tq w) :
 Ret VP (.fn 441) [.ptr 0 0 0 0,.d (cmD 2 v s .z (.tab lo w) [] [] [] [])] [some (rdB b ts n)] (.d (.tuple [.int .i64 (pk w q:Nat),.int .i64 0])) [some (rdB b ts (n+1))] /\ ∃ p,w[pk w q]?=some p/\Wn p:=by
 have hw:=ac n (by omega)
 have g:(ts.map oD)[n]?=some (oD t):=by rw [List.getElem?_map,ht];rfl
 have t0:((n:Int)==(((ts.map oD).length:Nat):Int))=false:=by rw [List.length_map];simp;omega
 have t1:¬ (t:Int) < 0:=by omega
 have t2:¬ (t:Int)>=(b:Int):=by omega
 have hlt:pk w q < w.length:=by
  obtain ⟨u,hu,e⟩:=T.hl
  have:=wf (S:=bW 0 w) (q:=q) ⟨u,hu,by rw [e];exact hq.last⟩
  rwa [rv] at this
 have hnot : ∀ k ≤ pk w q,¬ 0 < sgQ (sK w k - q):=by
  intro k hk
  cases k with
  | zero=>exact hq.first
  | succ k=>exact vG (S:=bW 0 w) (by show k < pk w q;omega)
 have hne : ∀ k ≤ pk w q,sK w k≠mkRat 1 1:=fun k hk e=>hnot k hk (by rw [e];exact hq.last)
 have hat:0 < sgQ (sK w (pk w q+1) - q):=wg (S:=bW 0 w) (by rw [rv];exact hlt)
 have h3:=T.h3
 refine ⟨?_,?_⟩
 · have z0:Ret VP (.fn 107) [.d (.int .i64 0)] [] (.d (qD (sK w 0))) []:=by
    show Ret VP (.fn 107) [.d (.int .i64 0)] [] (.d (qD (0:Rat))) []
    rw [show (0:Rat)=mkRat 0 1 by decide +kernel,wB]
    exact asM
   rw [vE] at hnew z0
   generalize ho:pk w q=o at *
   unfold rdB
   refine ret_of rfl rfl (r0 ?_)
   (have hz1:=decide_eq_false t1;have hz2:=decide_eq_false t2;refine Z1r ?_)
   refine af rfl ?_
   refine lO (vs':=[.ptr 1 0 0 0,.ptr 2 0 0 0,.d (.slice w),.d (.int .i64 (w.length:Nat)),.d (.int .i64 (0:Nat))]) (s':=[some (rdB b ts (n+1)),HT q,HT (sK w 0)]) ?_ rfl (by unfold rdB;rw [<- hw];rfl)
   refine cB (fun k=>[.ptr 1 0 0 0,.ptr 2 0 0 0,.d (.slice w),.d (.int .i64 (w.length:Nat)),.d (.int .i64 k)]) (fun k=>[some (rdB b ts (n+1)),HT q,HT (sK w k)]) o (fun k hk hm => ?_) ?_
   · have hwk:=ac k (by omega)
     have c1:decide ((k:Int) < ((w.length:Nat):Int))=true:=decide_eq_true (by omega)
     have hkw:k < w.length:=by omega
     have g4:w[k]?=some w[k]:=List.getElem?_eq_getElem hkw
     obtain ⟨⟨wk,hwq⟩,u0,u1,u2,v1,v3⟩:=T.hv k w[k] g4 (hne k (by omega))
     have m:=dH _ q (T.hf (k+1)) hq.hf
     have c2:=bv (hnot (k+1) (by omega))
     rw [hwq] at g4 v1
     rw [vE,vE] at v3 m
     generalize sK w k=sk at v3
     generalize sK w (k+1)=sn at v3 hm m c2
     unfold ah
     refine Z1r ?_
     refine af rfl (lO hm ?_ ?_)
     · exact vc rfl (vc rfl (vc rfl (vc rfl (vc (dI hwk) rfl))))
     · rfl
   · have c1:decide ((o:Int) < ((w.length:Nat):Int))=true:=decide_eq_true (by omega)
     have g4:w[o]?=some w[o]:=List.getElem?_eq_getElem hlt
     obtain ⟨⟨wk,hwq⟩,u0,u1,u2,v1,v3⟩:=T.hv o w[o] g4 (hne o (by omega))
     have m:=dH _ q (T.hf (o+1)) hq.hf
     have c2:=aQ hat
     rw [hwq] at g4 v1
     rw [vE,vE] at v3 m
     generalize sK w o=sk at v3
     generalize sK w (o+1)=sn at v3 m c2
     unfold ah
     refine Z1r ?_
     rfl
 · refine ⟨w[pk w q],List.getElem?_eq_getElem hlt,?_⟩
   rcases T.hw _ _ (List.getElem?_eq_getElem hlt) with h | h
   · exact h
   · rw [h] at hat;exact absurd hat (hnot _ (Nat.le_refl _))
theorem vC {S:List Rat} (h:S.all (fun s=>decide (s.num.natAbs < 65536)&&decide (s.den < 65536))=true) (k:Nat):fit 65536 (S.getD k 0):=by
 rw [List.getD_eq_getElem?_getD]
 cases e:S[k]? with
 | none=>exact ⟨by decide,by decide⟩
 | some s =>
   have:=List.all_eq_true.1 h s (List.mem_of_getElem? e)
   simp only [Bool.and_eq_true,decide_eq_true_eq] at this
   exact this
theorem tq2 {x0 x1:D} {r1 r2:Rat} (hs:bW 0 [x0,x1]=[r1,r2]) (h2:r2=mkRat 1 1) (hf:[0,r1,r2].all (fun s=>decide (s.num.natAbs < 65536)&&decide (s.den < 65536))=true) (e0 : ∃ e,x0 = .slice e) (e1 : ∃ e,x1 = .slice e)
 (f0 : ∃ (a0:Bool) (a1 a2:List D),Ret VP (.fn 443) [.d x0] [] (.d (.agg [.bool a0,.slice a1,.slice a2])) []/\Ret VP (.fn 156) [.d (qD 0),.d (.agg [.bool a0,.slice a1,.slice a2])] [] (.d (qD r1)) []) (f1:r1≠mkRat 1 1 -> ∃ (a0:Bool) (a1 a2:List D),Ret VP (.fn 443) [.d x1] [] (.d (.agg [.bool a0,.slice a1,.slice a2])) []/\Ret VP (.fn 156) [.d (qD r1),.d (.agg [.bool a0,.slice a1,.slice a2])] [] (.d (qD r2)) [])
 (w0:Wn x0\/r1=0) (w1:Wn x1\/r2=r1):Tq [x0,x1]:=by
 refine ⟨by simp,by rw [hs];exact ⟨r2,by simp,h2⟩,fun k=>by unfold sK;rw [hs];exact vC hf k,?_,?_⟩
 · intro k p hk hn
   unfold sK at hn ⊢
   rw [hs] at hn ⊢
   match k with
   | 0=>simp at hk;subst hk;exact ⟨e0,f0⟩
   | 1=>simp at hk;subst hk;exact ⟨e1,f1 (by simpa using hn)⟩
   | k+2=>simp at hk
 · intro k p hk
   unfold sK
   rw [hs]
   match k with
   | 0=>simp at hk;subst hk;simpa using w0
   | 1=>simp at hk;subst hk;simpa using w1
   | k+2=>simp at hk
theorem tq3 {x0 x1 x2:D} {r1 r2 r3:Rat} (hs:bW 0 [x0,x1,x2]=[r1,r2,r3]) (h2:r3=mkRat 1 1) (hf:[0,r1,r2,r3].all (fun s=>decide (s.num.natAbs < 65536)&&decide (s.den < 65536))=true) (e0 : ∃ e,x0 = .slice e) (e1 : ∃ e,x1 = .slice e) (e2 : ∃ e,x2 = .slice e)
 (f0 : ∃ (a0:Bool) (a1 a2:List D),Ret VP (.fn 443) [.d x0] [] (.d (.agg [.bool a0,.slice a1,.slice a2])) []/\Ret VP (.fn 156) [.d (qD 0),.d (.agg [.bool a0,.slice a1,.slice a2])] [] (.d (qD r1)) []) (f1 : ∃ (a0:Bool) (a1 a2:List D),Ret VP (.fn 443) [.d x1] [] (.d (.agg [.bool a0,.slice a1,.slice a2])) []/\Ret VP (.fn 156) [.d (qD r1),.d (.agg [.bool a0,.slice a1,.slice a2])] [] (.d (qD r2)) []) (f2 : ∃ (a0:Bool) (a1 a2:List D),Ret VP (.fn 443) [.d x2] [] (.d (.agg [.bool a0,.slice a1,.slice a2])) []/\Ret VP (.fn 156) [.d (qD r2),.d (.agg [.bool a0,.slice a1,.slice a2])] [] (.d (qD r3)) [])
 (w0:Wn x0) (w1:Wn x1\/r2=r1) (w2:Wn x2):Tq [x0,x1,x2]:=by
 refine ⟨by simp,by rw [hs];exact ⟨r3,by simp,h2⟩,fun k=>by unfold sK;rw [hs];exact vC hf k,?_,?_⟩
 · intro k p hk hn
   unfold sK at hn ⊢
   rw [hs] at hn ⊢
   match k with
   | 0=>simp at hk;subst hk;exact ⟨e0,f0⟩
   | 1=>simp at hk;subst hk;exact ⟨e1,f1⟩
   | 2=>simp at hk;subst hk;exact ⟨e2,f2⟩
   | k+3=>simp at hk
 · intro k p hk
   unfold sK
   rw [hs]
   match k with
   | 0=>simp at hk;subst hk;exact .inl w0
   | 1=>simp at hk;subst hk;simpa using w1
   | 2=>simp at hk;subst hk;exact .inl w2
   | k+3=>simp at hk
theorem IG:Tq w0:=tq3 (r1:=mkRat 1 2) (r2:=mkRat 1 2) (r3:=mkRat 1 1) (by decide +kernel) rfl (by decide +kernel) ⟨_,rfl⟩ ⟨_,rfl⟩ ⟨_,rfl⟩ (⟨_,_,_,atP,by rw [show (0:Rat)=mkRat 0 1 by decide +kernel,wB,kB];exact axA⟩) (⟨_,_,_,axZ,by rw [kB];exact aBD⟩) (⟨_,_,_,atP,by rw [kB,bE];exact aHE⟩) ii (.inr rfl) ii
theorem IF:Tq w1:=tq3 (r1:=mkRat 1 2) (r2:=mkRat 3 4) (r3:=mkRat 1 1) (by decide +kernel) rfl (by decide +kernel) ⟨_,rfl⟩ ⟨_,rfl⟩ ⟨_,rfl⟩ (⟨_,_,_,atP,by rw [show (0:Rat)=mkRat 0 1 by decide +kernel,wB,kB];exact axA⟩) (⟨_,_,_,asZ,by rw [kB,mF];exact aIB⟩) (⟨_,_,_,asZ,by rw [mF,bE];exact axC⟩) ii (.inl ig) ig
theorem IE:Tq w2:=tq3 (r1:=mkRat 1 3) (r2:=mkRat 2 3) (r3:=mkRat 1 1) (by decide +kernel) rfl (by decide +kernel) ⟨_,rfl⟩ ⟨_,rfl⟩ ⟨_,rfl⟩ (⟨_,_,_,at6,by rw [show (0:Rat)=mkRat 0 1 by decide +kernel,wB,mH];exact at9⟩) (⟨_,_,_,at6,by rw [mH,q7];exact aI9⟩) (⟨_,_,_,at6,by rw [q7,bE];exact aA8⟩) jn (.inl jn) jn
theorem ID:Tq w3:=tq3 (r1:=mkRat 1 3) (r2:=mkRat 5 6) (r3:=mkRat 1 1) (by decide +kernel) rfl (by decide +kernel) ⟨_,rfl⟩ ⟨_,rfl⟩ ⟨_,rfl⟩ (⟨_,_,_,at6,by rw [show (0:Rat)=mkRat 0 1 by decide +kernel,wB,mH];exact at9⟩) (⟨_,_,_,atP,by rw [mH,wv];exact aI8⟩) (⟨_,_,_,axW,by rw [wv,bE];exact aI6⟩) jn (.inl ii) Hn
theorem IC:Tq w4:=tq3 (r1:=mkRat 1 4) (r2:=mkRat 3 4) (r3:=mkRat 1 1) (by decide +kernel) rfl (by decide +kernel) ⟨_,rfl⟩ ⟨_,rfl⟩ ⟨_,rfl⟩ (⟨_,_,_,asZ,by rw [show (0:Rat)=mkRat 0 1 by decide +kernel,wB,mG];exact atA⟩) (⟨_,_,_,atP,by rw [mG,mF];exact aI5⟩) (⟨_,_,_,asZ,by rw [mF,bE];exact axC⟩) ig (.inl ii) ig
theorem IB:Tq w5:=tq3 (r1:=mkRat 1 4) (r2:=mkRat 7 8) (r3:=mkRat 1 1) (by decide +kernel) rfl (by decide +kernel) ⟨_,rfl⟩ ⟨_,rfl⟩ ⟨_,rfl⟩ (⟨_,_,_,asZ,by rw [show (0:Rat)=mkRat 0 1 by decide +kernel,wB,mG];exact atA⟩) (⟨_,_,_,axS,by rw [mG,wu];exact axU⟩) (⟨_,_,_,axR,by rw [wu,bE];exact axT⟩) ig (.inl Hl) Hm
theorem IA:Tq w6:=tq2 (r1:=mkRat 1 1) (r2:=mkRat 1 1) (by decide +kernel) rfl (by decide +kernel) ⟨_,rfl⟩ ⟨_,rfl⟩ (⟨_,_,_,aB0,by rw [show (0:Rat)=mkRat 0 1 by decide +kernel,wB,bE];exact axQ⟩) (fun h=>absurd rfl h) (.inl uI) (.inr rfl)
theorem Iz:Tq w7:=tq2 (r1:=mkRat 0 1) (r2:=mkRat 1 1) (by decide +kernel) rfl (by decide +kernel) ⟨_,rfl⟩ ⟨_,rfl⟩ (⟨_,_,_,axZ,by rw [show (0:Rat)=mkRat 0 1 by decide +kernel,wB];exact aIN⟩) (fun _=>⟨_,_,_,aB0,by rw [wB,bE];exact axQ⟩) (.inr (by decide +kernel)) (.inl uI)
theorem Ix:Tq w8:=tq2 (r1:=mkRat 1 2) (r2:=mkRat 1 1) (by decide +kernel) rfl (by decide +kernel) ⟨_,rfl⟩ ⟨_,rfl⟩ (⟨_,_,_,atP,by rw [show (0:Rat)=mkRat 0 1 by decide +kernel,wB,kB];exact axA⟩) (fun _=>⟨_,_,_,atP,by rw [kB,bE];exact aHE⟩) (.inl ii) (.inl ii)
theorem H1:Tq w9:=tq2 (r1:=mkRat 2 3) (r2:=mkRat 1 1) (by decide +kernel) rfl (by decide +kernel) ⟨_,rfl⟩ ⟨_,rfl⟩ (⟨_,_,_,avZ,by rw [show (0:Rat)=mkRat 0 1 by decide +kernel,wB,q7];exact axV⟩) (fun _=>⟨_,_,_,at6,by rw [q7,bE];exact aA8⟩) (.inl uG) (.inl jn)
theorem H0:Tq w10:=tq2 (r1:=mkRat 1 3) (r2:=mkRat 1 1) (by decide +kernel) rfl (by decide +kernel) ⟨_,rfl⟩ ⟨_,rfl⟩ (⟨_,_,_,at6,by rw [show (0:Rat)=mkRat 0 1 by decide +kernel,wB,mH];exact at9⟩) (fun _=>⟨_,_,_,avZ,by rw [mH,bE];exact aAZ⟩) (.inl jn) (.inl uG)
theorem HZ:Tq w11:=tq2 (r1:=mkRat 3 4) (r2:=mkRat 1 1) (by decide +kernel) rfl (by decide +kernel) ⟨_,rfl⟩ ⟨_,rfl⟩ (⟨_,_,_,avV,by rw [show (0:Rat)=mkRat 0 1 by decide +kernel,wB,mF];exact axP⟩) (fun _=>⟨_,_,_,asZ,by rw [mF,bE];exact axC⟩) (.inl uE) (.inl ig)
theorem HY:Tq w12:=tq2 (r1:=mkRat 1 4) (r2:=mkRat 1 1) (by decide +kernel) rfl (by decide +kernel) ⟨_,rfl⟩ ⟨_,rfl⟩ (⟨_,_,_,asZ,by rw [show (0:Rat)=mkRat 0 1 by decide +kernel,wB,mG];exact atA⟩) (fun _=>⟨_,_,_,avV,by rw [mG,bE];exact aAV⟩) (.inl ig) (.inl uE)
theorem HX:Tq w13:=tq2 (r1:=mkRat 4 5) (r2:=mkRat 1 1) (by decide +kernel) rfl (by decide +kernel) ⟨_,rfl⟩ ⟨_,rfl⟩ (⟨_,_,_,avR,by rw [show (0:Rat)=mkRat 0 1 by decide +kernel,wB,ww];exact axO⟩) (fun _=>⟨_,_,_,avQ,by rw [ww,bE];exact aAM⟩) (.inl uC) (.inl uH)
theorem HW:Tq w14:=tq2 (r1:=mkRat 3 5) (r2:=mkRat 1 1) (by decide +kernel) rfl (by decide +kernel) ⟨_,rfl⟩ ⟨_,rfl⟩ (⟨_,_,_,avP,by rw [show (0:Rat)=mkRat 0 1 by decide +kernel,wB,wx];exact axM⟩) (fun _=>⟨_,_,_,avO,by rw [wx,bE];exact aAD⟩) (.inl uD) (.inl uF)
theorem HV:Tq w15:=tq2 (r1:=mkRat 2 5) (r2:=mkRat 1 1) (by decide +kernel) rfl (by decide +kernel) ⟨_,rfl⟩ ⟨_,rfl⟩ (⟨_,_,_,avO,by rw [show (0:Rat)=mkRat 0 1 by decide +kernel,wB,wy];exact axL⟩) (fun _=>⟨_,_,_,avP,by rw [wy,bE];exact aAC⟩) (.inl uF) (.inl uD)
theorem HU:Tq w16:=tq2 (r1:=mkRat 1 5) (r2:=mkRat 1 1) (by decide +kernel) rfl (by decide +kernel) ⟨_,rfl⟩ ⟨_,rfl⟩ (⟨_,_,_,avQ,by rw [show (0:Rat)=mkRat 0 1 by decide +kernel,wB,wz];exact axN⟩) (fun _=>⟨_,_,_,avR,by rw [wz,bE];exact aAB⟩) (.inl uH) (.inl uC)
theorem tl (v s:Int) (lo:Int) (b:Nat) (ts:List Nat) (n t:Nat) (q:Rat) (hq:Frq q) (ht:ts[n]?=some t) (htb:t < b) (hb:b<=1000) (hn:n < 1000) (hlen:n < ts.length) (hnew:Ret VP (.fn 442) [.d (.int .i64 t),.d (.int .i64 b)] [] (.d (.tuple [qD q,.int .i64 0])) []) : ∀ w∈W0,
 Ret VP (.fn 441) [.ptr 0 0 0 0,.d (cmD 2 v s .z (.tab lo w) [] [] [] [])] [some (rdB b ts n)] (.d (.tuple [.int .i64 (pk w q:Nat),.int .i64 0])) [some (rdB b ts (n+1))] /\ ∃ p,w[pk w q]?=some p/\Wn p:=by
 intro w hw
 refine wj v s lo b ts n t q hq ht htb hb hn hlen hnew ?_
 exact md (P:=Tq) ⟨IG,IF,IE,ID,IC,IB,IA,Iz,Ix,H1,H0,HZ,HY,HX,HW,HV,HU⟩ w hw
theorem Iv (t b:Nat) (hb:0 < b):(mkRat (t:Int) b).num=((t/Nat.gcd b t:Nat):Int)/\(mkRat (t:Int) b).den=b/Nat.gcd b t:=by
 have hb':b≠0:=by omega
 constructor
 · rw [Rat.num_mkRat,if_neg hb',Int.natAbs_natCast];rfl
 · rw [Rat.den_mkRat,if_neg hb',Int.natAbs_natCast,Nat.gcd_comm]
theorem IU (t b:Nat) (htb:t < b) (hb:b<=1000):Frq (mkRat (t:Int) b):=by
 have ⟨e1,e2⟩:=Iv t b (by omega)
 have hg:0 < Nat.gcd b t:=Nat.gcd_pos_of_pos_left _ (by omega)
 have l1:t/Nat.gcd b t<=t:=Nat.div_le_self _ _
 have l2:b/Nat.gcd b t<=b:=Nat.div_le_self _ _
 refine ⟨?_,?_,?_,?_⟩
 · rw [<- Rat.num_nonneg,e1];exact Int.natCast_nonneg _
 · rw [Rat.lt_iff,e1,e2]
   have h1:t/Nat.gcd b t < b/Nat.gcd b t:=by
    have h2:=Nat.div_mul_cancel (Nat.gcd_dvd_left b t)
    have h3:=Nat.div_mul_cancel (Nat.gcd_dvd_right b t)
    refine Nat.lt_of_mul_lt_mul_right (a:=Nat.gcd b t) ?_
    rw [h2,h3];exact htb
   have e3:(1:Rat).num=1:=rfl
   have e4:(1:Rat).den=1:=rfl
   rw [e3,e4];omega
 · rw [e1,Int.natAbs_natCast];omega
 · rw [e2];omega
theorem wm (t b:Nat) (htb:t < b) (hb:b<=1000):Ret VP (.fn 442) [.d (.int .i64 t),.d (.int .i64 b)] [] (.d (.tuple [qD (mkRat (t:Int) b),.int .i64 0])) []:=by
 have h1:=dN t (by omega)
 have h2:=dN b (by omega)
 have h3:=gc false t b (by omega) (by omega) (by omega)
 have e:sg false t=(t:Int):=rfl
 rw [e] at h3
 have h4:=aa8 (mkRat (t:Int) b)
 have t0:((b:Int)==0)=false:=by simp;omega
 refine ret_of rfl rfl (r0 ?_)
 refine Z2 ?_
 rfl
theorem hH (v s:Int) (lo:Int) (b:Nat) (ts:List Nat) (n:Nat) (hb:b<=1000) (hall : ∀ t∈ts,t < b) (hn:n < 1000) (hlen:n < ts.length) (w:List D) (hw:w∈W0) :
 Ret VP (.fn 441) [.ptr 0 0 0 0,.d (cmD 2 v s .z (.tab lo w) [] [] [] [])] [some (rdB b ts n)] (.d (.tuple [.int .i64 (pk w (mkRat (ts.getD n 0:Nat) b):Nat),.int .i64 0])) [some (rdB b ts (n+1))] /\ ∃ p,w[pk w (mkRat (ts.getD n 0:Nat) b)]?=some p/\Wn p:=by
 have hg:ts[n]?=some (ts.getD n 0):=by rw [List.getD_eq_getElem?_getD,List.getElem?_eq_getElem hlen];rfl
 have hm:ts.getD n 0 < b:=hall _ (List.mem_of_getElem? hg)
 exact tl v s lo b ts n (ts.getD n 0) _ (IU _ b hm hb) hg hm hb hn hlen (wm _ b hm hb) w hw
end Go.Proofs.YtncfpmehhfdipaaGreat
namespace Go.Proofs.YtncfpmehhfdipaaGreat
open Go.IntWalk
attribute [local irreducible] au
set_option maxHeartbeats 4000000
set_option maxRecDepth 100000
theorem bM (st:List Int):(st.map iD).all bJ=true:=by
 induction st with
 | nil=>rfl
 | cons c l ih=>rw [List.map_cons,List.all_cons,ih];rfl
theorem aK {s:aa} {id ver k esz:Nat} {ro:Bool} {es:List D} {x:D} (hb:getB s id=some (.rows ver ro (esz+1) (ao es))) (hk:k=es.length) (ho:es.all bJ=true):ai s [] [.d x,.ms id ver 0 k]=some ([.d x,.d (.slice es)],[id]):=by
 have h1:=mg hb hk ho
 have h2:toD s bB (.d x)=some (x,[]):=rfl
 simp only [ai,h1,h2,List.drop_nil,List.append_nil,List.nil_append]
section
variable {p:bh} {b0:Nat} {d:Option Nat} {os:List VOper} {e:Env} {s s1:aa} {Q:Env->aa->Prop}
theorem osD {a y:Opd} {id ver i i' v:Nat} {es es':List D} {x:D} (ha:ev e a = .ptr id ver i' 0) (hii:i'=i) (hy:ev e y = .d x) (hb:getB s id=some (.rows v false 1 (ao es))) (hv:v=ver) (hi:i < es.length) (h1 : ∀ z∈es,z.cells.length=1) (hx:x.cells=[x]) (hsc:bY x=true) (he:es.set i x=es') (hs:fF (setB s id (.rows v false 1 (ao es'))) some=some s1) (h:Ops p b0 os (put e d cA) s1 Q):Ops p b0 (⟨d,.store 1 a y,none⟩::os) e s Q:=by
 subst hii
 rw [ce] at hs;injection hs with hs
 have h2:(ao es)[i']?=some (es[i'].cells.map V.d):=by simp [ao,hi]
 have h3:=h1 es[i'] (List.getElem_mem hi)
 refine osm ha hy hb hv h2 (by rw [List.length_map,h3];decide) (by simp [V.cells,hx]) (by simpa [aH] using hsc) ?_
 have h4:(ao es).set i' (splice (es[i'].cells.map V.d) 0 [.d x])=ao es':=by
  rw [<- he]
  have h5:splice (es[i'].cells.map V.d) 0 [.d x]=x.cells.map V.d:=by
   obtain ⟨z,hz⟩:=List.length_eq_one_iff.1 h3
   rw [hz,hx];rfl
  rw [h5];simp [ao,List.map_set]
 rw [h4,hs];exact h
theorem oaD {slot esz bytes id ver len:Nat} {x y:Opd} {es:List D} (z:D) (hx:ev e x = .ms id ver 0 len) (hy:cM s esz (ev e y)=some [z.cells.map V.d]) (hb:getB s id=some (.rows ver false esz (ao es))) (hl:len=es.length) (hf:([z.cells.map V.d].all fun r=>r.length==esz&&r.all aH)=true) (hr:au (len+1) bytes=true) (hs:fF (setB s id (.rows (ver+1) false esz (ao (es++[z])))) some=some s1) (h:Ops p b0 os (put e d (.ms id (ver+1) 0 (len+1))) s1 Q):Ops p b0 (⟨d,.append slot esz bytes x y,none⟩::os) e s Q:=by
 rw [ce] at hs;injection hs with hs
 refine oam hx hy hb (by rw [av];omega) rfl hf hr ?_ h
 rw [aF]
 have e1:(ao es).take len++[z.cells.map V.d]=ao (es++[z]):=by
  rw [hl,ga];simp [ao]
 rw [e1,hs]
end
theorem dV (st:List Int) : ∀ z∈st.map iD,z.cells.length=1:=by
 intro z hz
 obtain ⟨n,_,rfl⟩:=List.mem_map.1 hz
 rfl
theorem dU (st:List Int) (i:Nat) (z:Int):(st.map iD).set i (.int .i64 z)=(st.set i z).map iD:=by rw [List.map_set];rfl
theorem se : ∀ w∈W0,w.length<=3:=md ⟨by decide,by decide,by decide,by decide,by decide,by decide,by decide,by decide,by decide,by decide,by decide,by decide,by decide,by decide,by decide,by decide,by decide⟩
structure X where
 ch:List (Nat×Nat)
 m:Rat
 st:List Int
 en:Int
 tk:Nat
def chD (p:Nat×Nat):D := .agg [.int .i64 p.1,.int .i64 p.2]
open Classical in
noncomputable def val2 (p:D):Rat:=if h : ∃ r:Rat,p = .slice [ct r]/\r≠0/\aaE r then h.choose else 0
theorem Wn.val {p:D} (h:Wn p):p = .slice [ct (val2 p)]/\val2 p≠0/\aaE (val2 p):=by
 have h1 : ∃ r:Rat,p = .slice [ct r]/\r≠0/\aaE r:=let ⟨r,a,b,c,_⟩:=h;⟨r,a,b,c⟩
 unfold val2
 rw [dif_pos h1]
 exact h1.choose_spec
def clA (cs:List Ce) (o:Nat) (n:Int):Int:=(cs.getD o ⟨1,0,1⟩).cl n
mutual
noncomputable def Cm.ex (cs:List Ce) (q:Nat->Rat):Cm->X->X×Bool
 | .mk k v s f t a b g o,x =>
   if k=1 then
    match g,o with
    | [f1],[o1]=>({ x with st:=x.st.set o1 (clA cs o1 (f1.ev x.st)) },true)
    | [f1,f2],[o1,o2]=>({ x with st:=(x.st.set o1 (clA cs o1 (f1.ev x.st))).set o2 (clA cs o2 (f2.ev x.st)) },true)
    | _,_=>(x,true)
   else if k=2 then
    ({ ch:=x.ch++[(s.toNat,pk t.w (q x.tk))],m:=x.m*val2 (t.w.getD (pk t.w (q x.tk)) p0),st:=x.st.set v.toNat (clA cs v.toNat (t.lo+(pk t.w (q x.tk):Nat))),en:=x.en,tk:=x.tk+1 },true)
   else if k=3 then
    if f.ev x.st=0 then Cm.exs cs q b x else Cm.exs cs q a x
   else if k=4 then
    if f.ev x.st=0 then ({ x with en:=2 },false) else (x,true)
   else ({ x with en:=3 },false)
noncomputable def Cm.exs (cs:List Ce) (q:Nat->Rat):List Cm->X->X×Bool
 | [],x=>(x,true)
 | c::l,x=>if (c.ex cs q x).2 then Cm.exs cs q l (c.ex cs q x).1 else ((c.ex cs q x).1,false)
end
structure Fix where
 cs:List Ce
 bd:List D
 os:List Nat
 T:Ty
 b:Nat
 ts:List Nat
def Fix.q (F:Fix) (n:Nat):Rat:=mkRat (F.ts.getD n 0:Nat) F.b
abbrev aaU (F:Fix) (ch:V) (m:Rat) (stp:V) (en:Int) (rd:Nat):Option Blk:=some (.rows 0 false 17 [[.d (.int .i64 0),.d (.slice (F.cs.map Ce.d)),.d (.slice []),.d (.slice []),.d (.slice F.bd),.d (.slice (F.os.map oD)),.d (.int .i64 F.T.a),.d (.int .i64 F.T.b),.d (.int .i64 F.T.c),.d (.int .i64 F.T.d),.d (.slice F.T.e),ch,.d (.slice [ct m]),stp,.d (.int .i64 en),.func 441 [.ptr rd 0 0 0] [],.d (.int .i64 0)]])
abbrev stB (st:List Int):Option Blk:=some (.rows 0 false 1 (ao (st.map iD)))
abbrev chB (c:Nat×Nat) (l:List (Nat×Nat)):Option Blk:=some (.rows l.length false 2 (ao ((c::l).map chD)))
inductive Sh where
 | N
 | A (c:Nat×Nat) (l:List (Nat×Nat))
 | C (c:Nat×Nat) (l:List (Nat×Nat))
def Sh.ch:Sh->List (Nat×Nat)
 | .N=>[]
 | .A c l=>c::l
 | .C c l=>c::l
abbrev sN (F:Fix) (x:X):aa:=[aaU F .nils x.m (.ms 1 0 0 x.st.length) x.en 2,stB x.st,some (rdB F.b F.ts x.tk)]
abbrev sA (F:Fix) (x:X) (c:Nat×Nat) (l:List (Nat×Nat)):aa:=[aaU F (.ms 3 l.length 0 (l.length+1)) x.m (.ms 1 0 0 x.st.length) x.en 2,stB x.st,some (rdB F.b F.ts x.tk),chB c l]
abbrev sC (F:Fix) (x:X) (c:Nat×Nat) (l:List (Nat×Nat)):aa:=[aaU F (.ms 1 l.length 0 (l.length+1)) x.m (.ms 2 0 0 x.st.length) x.en 3,chB c l,stB x.st,some (rdB F.b F.ts x.tk)]
theorem gS {cs:List Ce} (hc : ∀ c∈cs,c.Ok) {o:Nat} (ho:o < cs.length) : ∃ c,(cs.map Ce.d)[o]?=some (Ce.d c) /\ ∀ n,Ret VP (.fn 66) [.d c.d,.d (.int .i64 n)] [] (.d (.int .i64 (clA cs o n))) []:=by
 refine ⟨cs[o],?_,fun n => ?_⟩
 · rw [List.getElem?_map,List.getElem?_eq_getElem ho];rfl
 · have h:=bI cs[o] (hc _ (List.getElem_mem ho)) n
   unfold clA
   rw [List.getD_eq_getElem?_getD,List.getElem?_eq_getElem ho]
   exact h
end Go.Proofs.YtncfpmehhfdipaaGreat
namespace Go.Proofs.YtncfpmehhfdipaaGreat
open Go.IntWalk
attribute [local irreducible] au
set_option maxHeartbeats 4000000
set_option maxRecDepth 100000
def iRq0 (l:List Nat):D := .slice (l.map oD)
abbrev pkS (n v j:Nat) (ps:List Nat) (L:List (List Nat)):aa:=[some (.rows 0 false 1 [[.d (.int .i64 n)]]),some (.rows 0 false 1 [[.ms 3 v 0 j]]),some (.rows 0 false 1 [[.ms 4 v 0 j]]),some (.rows v false 1 (ao (ps.map oD))),some (.rows v false 1 (ao (L.map iRq0)))]
section
variable {p:bh} {b0:Nat} {d:Option Nat} {os:List VOper} {e:Env} {s s1:aa} {Q:Env->aa->Prop}
theorem oaT {slot esz bytes id ver len:Nat} {x y:Opd} {es:List D} (z:D) (hx:ev e x = .ms id ver 0 len) (hy:cM s esz (ev e y)=some [z.cells.map V.d]) (hb:getB s id=some (.rows ver false esz (ao es))) (hl:len<=es.length) (hf:([z.cells.map V.d].all fun r=>r.length==esz&&r.all aH)=true) (hr:au (len+1) bytes=true) (hs:fF (setB s id (.rows (ver+1) false esz (ao (es.take len++[z])))) some=some s1) (h:Ops p b0 os (put e d (.ms id (ver+1) 0 (len+1))) s1 Q):Ops p b0 (⟨d,.append slot esz bytes x y,none⟩::os) e s Q:=by
 rw [ce] at hs;injection hs with hs
 refine oam hx hy hb (by rw [av];exact hl) rfl hf hr ?_ h
 rw [aF]
 have e1:(ao es).take len++[z.cells.map V.d]=ao (es.take len++[z]):=by
  simp [ao]
 rw [e1,hs]
end
theorem a62 {es:List D} {n:Nat} {x:D} (h:es[n]?=some x) (hx:x.cells=[x]):(ao es)[n]?=some [.d x]:=by
 simp [ao,h,hx]
theorem a6W (v0 s:Int) (lo:Int) (w:List D) (n v j b o:Nat) (ps:List Nat) (L:List (List Nat)) (l:List Nat) (hn:n < j) (hj:j<=16) (hp:j<=ps.length) (hm:j<=L.length) (hb:ps[n]?=some b) (hl:L[n]?=some l) (ho:l[b]?=some o) :
 Ret VP (.fn 39) [.d (cmD 2 v0 s .z (.tab lo w) [] [] [] []),.ptr 0 0 0 0,.ptr 1 0 0 0,.ptr 2 0 0 0] (pkS n v j ps L) (.d (.tuple [.int .i64 o,.int .i64 0])) (pkS (n+1) v j ps L):=by
 have h1:((n:Int)==(j:Int))=false:=by simp;omega
 have hw:=ac n (by omega)
 have hw2:IntKind.i64.wrap (((n+1:Nat):Int) - 1)=(n:Int):=by rw [i64_in]<;>omega
 have g:(l.map oD)[b]?=some (oD o):=by rw [List.getElem?_map,ho];rfl
 have g1:(ps.map oD)[n]?=some (oD b):=by rw [List.getElem?_map,hb];rfl
 have g2:(L.map iRq0)[n]?=some (iRq0 l):=by rw [List.getElem?_map,hl];rfl
 refine ret_of rfl rfl (r0 ?_)
 (refine Z3r ?_;(repeat first | (refine oln rfl rfl rfl ?_;refine Z3r ?_)))
 rw [hw,hw2]
 refine fw (oim rfl rfl rfl rfl rfl hn (by rw [av,List.length_map];omega) (o0 ⟨rfl,rfl⟩)) ?_
 refine fw (olm rfl rfl rfl (by rw [Nat.zero_add];exact a62 g2 rfl) rfl (o0 ⟨rfl,rfl⟩)) ?_
 refine Z3r ?_
 rw [hw2]
 refine fw (oim rfl rfl rfl rfl rfl hn (by rw [av,List.length_map];omega) (o0 ⟨rfl,rfl⟩)) ?_
 refine fw (olm rfl rfl rfl (by rw [Nat.zero_add];exact a62 g1 rfl) rfl (o0 ⟨rfl,rfl⟩)) ?_
 refine Z3r ?_
 exact kG rfl rfl rfl rfl
theorem a67 {α:Type} (l:List α) (j:Nat) (h:j<=l.length) (x:α):(l.take j++[x])[j]?=some x:=by
 rw [List.getElem?_append_right (by rw [List.length_take];omega),List.length_take,Nat.min_eq_left h,Nat.sub_self];rfl
theorem a6V (v0 s:Int) (lo:Int) (w:List D) (l:List Nat) (o:Nat) (ho:l[0]?=some o) (hout:Ret VP (.fn 40) [.d (dsD 1 lo w)] [] (.d (.slice (l.map oD))) []) (v j:Nat) (ps:List Nat) (L:List (List Nat)) (hj:j < 16) (hp:j<=ps.length) (hm:j<=L.length) :
 Ret VP (.fn 39) [.d (cmD 2 v0 s .z (.tab lo w) [] [] [] []),.ptr 0 0 0 0,.ptr 1 0 0 0,.ptr 2 0 0 0] (pkS j v j ps L) (.d (.tuple [.int .i64 o,.int .i64 0])) (pkS (j+1) (v+1) (j+1) (ps.take j++[0]) (L.take j++[l])):=by
 have h1:((j:Int)==(j:Int))=true:=by simp
 have hw:=ac j (by omega)
 have hw2:IntKind.i64.wrap (((j+1:Nat):Int) - 1)=(j:Int):=by rw [i64_in]<;>omega
 have hr1:au (j+1) 24=true:=ab (by omega) (by decide)
 have hr2:au (j+1) 8=true:=ab (by omega) (by decide)
 have g:(l.map oD)[0]?=some (oD o):=by rw [List.getElem?_map,ho];rfl
 have e1:(ps.map oD).take j++[oD 0]=(ps.take j++[0]).map oD:=by simp
 have e2:(L.map iRq0).take j++[iRq0 l]=(L.take j++[l]).map iRq0:=by simp
 have g1:((ps.take j++[0]).map oD)[j]?=some (oD 0):=by rw [List.getElem?_map,a67 _ _ hp];rfl
 have g2:((L.take j++[l]).map iRq0)[j]?=some (iRq0 l):=by rw [List.getElem?_map,a67 _ _ hm];rfl
 refine ret_of rfl rfl (r0 ?_)
 (refine Z3r ?_;(repeat first | (refine oln rfl rfl rfl ?_;refine Z3r ?_)))
 refine fw (oaT (iRq0 l) rfl rfl rfl (by rw [List.length_map];exact hm) rfl hr1 rfl (o0 ⟨rfl,rfl⟩)) ?_
 refine Z3r ?_
 refine fw (oaT (oD 0) rfl rfl rfl (by rw [List.length_map];exact hp) rfl hr2 rfl (o0 ⟨rfl,rfl⟩)) ?_
 rw [e1,e2]
 refine Z3r ?_
 rw [hw,hw2]
 refine fw (oim rfl rfl rfl rfl rfl (Nat.lt_succ_self j) (by rw [av];simp;omega) (o0 ⟨rfl,rfl⟩)) ?_
 refine fw (olm rfl rfl rfl (by rw [Nat.zero_add];exact a62 g2 rfl) rfl (o0 ⟨rfl,rfl⟩)) ?_
 refine Z3r ?_
 rw [hw2]
 refine fw (oim rfl rfl rfl rfl rfl (Nat.lt_succ_self j) (by rw [av];simp;omega) (o0 ⟨rfl,rfl⟩)) ?_
 refine fw (olm rfl rfl rfl (by rw [Nat.zero_add];exact a62 g1 rfl) rfl (o0 ⟨rfl,rfl⟩)) ?_
 refine Z3r ?_
 exact kG rfl rfl rfl rfl
theorem a6U (v0 s:Int) (lo:Int) (w:List D) (l:List Nat) (o:Nat) (ho:l[0]?=some o) (hout:Ret VP (.fn 40) [.d (dsD 1 lo w)] [] (.d (.slice (l.map oD))) []) :
 Ret VP (.fn 39) [.d (cmD 2 v0 s .z (.tab lo w) [] [] [] []),.ptr 0 0 0 0,.ptr 1 0 0 0,.ptr 2 0 0 0] [some (.rows 0 false 1 [[.d (.int .i64 (0:Nat))]]),some (.rows 0 false 1 [[.nils]]),some (.rows 0 false 1 [[.nils]])] (.d (.tuple [.int .i64 o,.int .i64 0])) (pkS 1 0 1 [0] [l]):=by
 have g:(l.map oD)[0]?=some (oD o):=by rw [List.getElem?_map,ho];rfl
 refine ret_of rfl rfl (r0 ?_)
 refine Z2 ?_
 rfl
end Go.Proofs.YtncfpmehhfdipaaGreat
namespace Go.Proofs.YtncfpmehhfdipaaGreat
open Go.IntWalk
attribute [local irreducible] au
set_option maxHeartbeats 16000000
set_option maxRecDepth 100000
structure PSt where
 n:Nat
 v:Nat
 j:Nat
 ps:List Nat
 L:List (List Nat)
inductive Shp where
 | n0
 | n1
 | a0 (c:Nat×Nat) (ch:List (Nat×Nat))
 | a1 (c:Nat×Nat) (ch:List (Nat×Nat))
 | c8 (c:Nat×Nat) (ch:List (Nat×Nat))
 | t0
 | ta (c:Nat×Nat) (ch:List (Nat×Nat))
 | tc (c:Nat×Nat) (ch:List (Nat×Nat))
abbrev Shp.kk:Shp->Nat
 | .n0=>5
 | .n1=>7
 | .a0 _ _=>5
 | .a1 _ _=>7
 | .c8 _ _=>8
 | .t0=>3
 | .ta _ _=>3
 | .tc _ _=>4
abbrev a6Y (F:Fix) (ch:V) (m:Rat) (stp:V) (en:Int) (a b c:Nat):Option Blk:=some (.rows 0 false 17 [[.d (.int .i64 0),.d (.slice (F.cs.map Ce.d)),.d (.slice []),.d (.slice []),.d (.slice F.bd),.d (.slice (F.os.map oD)),.d (.int .i64 F.T.a),.d (.int .i64 F.T.b),.d (.int .i64 F.T.c),.d (.int .i64 F.T.d),.d (.slice F.T.e),ch,.d (.slice [ct m]),stp,.d (.int .i64 en),.func 39 [] [.ptr a 0 0 0,.ptr b 0 0 0,.ptr c 0 0 0],.d (.int .i64 0)]])
abbrev a6X (x:V):Option Blk:=some (.rows 0 false 1 [[x]])
abbrev psB (p:PSt):Option Blk:=some (.rows p.v false 1 (ao (p.ps.map oD)))
abbrev lsB (p:PSt):Option Blk:=some (.rows p.v false 1 (ao (p.L.map iRq0)))
abbrev stq (F:Fix) (x:X) (p:PSt):Shp->aa
 | .n0=>[a6Y F .nils x.m (.ms 1 0 0 x.st.length) x.en 2 3 4,stB x.st,a6X (.d (.int .i64 p.n)),a6X .nils,a6X .nils]
 | .n1=>[a6Y F .nils x.m (.ms 1 0 0 x.st.length) x.en 2 3 4,stB x.st,a6X (.d (.int .i64 p.n)),a6X (.ms 5 p.v 0 p.j),a6X (.ms 6 p.v 0 p.j),psB p,lsB p]
 | .a0 c ch=>[a6Y F (.ms 5 ch.length 0 (ch.length+1)) x.m (.ms 1 0 0 x.st.length) x.en 2 3 4,stB x.st,a6X (.d (.int .i64 p.n)),a6X (.ms 6 p.v 0 p.j),a6X (.ms 7 p.v 0 p.j),chB c ch,psB p,lsB p]
 | .a1 c ch=>[a6Y F (.ms 7 ch.length 0 (ch.length+1)) x.m (.ms 1 0 0 x.st.length) x.en 2 3 4,stB x.st,a6X (.d (.int .i64 p.n)),a6X (.ms 5 p.v 0 p.j),a6X (.ms 6 p.v 0 p.j),psB p,lsB p,chB c ch]
 | .c8 c ch=>[a6Y F (.ms 1 ch.length 0 (ch.length+1)) x.m (.ms 2 0 0 x.st.length) x.en 3 4 5,chB c ch,stB x.st,a6X (.d (.int .i64 p.n)),a6X (.ms 6 p.v 0 p.j),a6X (.ms 7 p.v 0 p.j),psB p,lsB p]
 | .t0=>[aaU F .nils x.m (.ms 1 0 0 x.st.length) x.en 2,stB x.st,some (rdB F.b F.ts x.tk)]
 | .ta c ch=>[aaU F (.ms 3 ch.length 0 (ch.length+1)) x.m (.ms 1 0 0 x.st.length) x.en 2,stB x.st,some (rdB F.b F.ts x.tk),chB c ch]
 | .tc c ch=>[aaU F (.ms 1 ch.length 0 (ch.length+1)) x.m (.ms 2 0 0 x.st.length) x.en 3,chB c ch,stB x.st,some (rdB F.b F.ts x.tk)]
abbrev Shp.add (q:Nat×Nat):Shp->Shp
 | .n0 => .a0 q []
 | .n1 => .a1 q []
 | .a0 c ch => .a0 c (ch++[q])
 | .a1 c ch => .a1 c (ch++[q])
 | .c8 c ch => .c8 c (ch++[q])
 | .t0 => .ta q []
 | .ta c ch => .ta c (ch++[q])
 | .tc c ch => .tc c (ch++[q])
abbrev Shp.chl:Shp->Nat
 | .n0=>0
 | .n1=>0
 | .a0 _ ch=>ch.length
 | .a1 _ ch=>ch.length
 | .c8 _ ch=>ch.length
 | .t0=>0
 | .ta _ ch=>ch.length
 | .tc _ ch=>ch.length
abbrev Shp.pin (p:PSt):Shp->aa
 | .n0=>[a6X (.d (.int .i64 p.n)),a6X .nils,a6X .nils]
 | .n1=>pkS p.n p.v p.j p.ps p.L
 | .a0 _ _=>pkS p.n p.v p.j p.ps p.L
 | .a1 _ _=>pkS p.n p.v p.j p.ps p.L
 | _=>pkS p.n p.v p.j p.ps p.L
abbrev Shp.tp:Shp->Bool
 | .t0=>true
 | .ta _ _=>true
 | .tc _ _=>true
 | _=>false
theorem a7V (F:Fix) (hcs : ∀ c∈F.cs,c.Ok) (x:X) (p:PSt) (lqq0:List Nat) (hst:x.st.length=F.cs.length) (l:List D) (i:Nat) (hi:i < l.length) (hl:l.length < 1000) (v s:Nat) (lo:Int) (w:List D) (n:Nat) (q:D) (hv:v < F.cs.length) (hw:w∈W0) (h1 : -1<=lo) (h2:lo<=1) (hm0:x.m≠0) (hmf:fit 65536 x.m) (hgp:w[n]?=some q) (hwn:Wn q) (hp:Ret VP (.fn 39) [.d (cmD 2 v s .z (.tab lo w) [] [] [] []),.ptr 0 0 0 0,.ptr 1 0 0 0,.ptr 2 0 0 0] (Shp.pin p .n0) (.d (.tuple [.int .i64 n,.int .i64 0])) (pkS 1 0 1 [0] [lqq0])) (hg:l[i]?=some (cmD 2 v s .z (.tab lo w) [] [] [] [])) {K:List Fr} {Q:Out->Env->aa->Prop} (h:ah VP 5 [0,21,22,23] ag [.ptr 0 0 0 0,.d (.slice l),.d (.int .i64 (l.length:Nat)),.d (.int .i64 (i+1:Nat))] (stq F { x with m:=x.m*val2 (w.getD n p0),st:=x.st.set v (clA F.cs v (lo+(n:Nat))),tk:=x.tk+1 } ⟨1,0,1,[0],[lqq0]⟩ (.a0 (s,n) [])) K Q):ah VP 5 [0,21,22,23] ag [.ptr 0 0 0 0,.d (.slice l),.d (.int .i64 (l.length:Nat)),.d (.int .i64 i)] (stq F x p .n0) K Q:=by
 have hwi:=ac i (by omega)
 have ht:decide ((i:Int) < ((l.length:Nat):Int))=true:=decide_eq_true (by omega)
 have ho:=hv
 have hu:=hv
 have hn3:n < w.length:=(List.getElem?_eq_some_iff.1 hgp).1
 have hw3:=se w hw
 have ep:w.getD n p0=q:=by rw [List.getD_eq_getElem?_getD,hgp];rfl
 rw [ep] at h
 have ⟨e1,r0',hf8⟩:=hwn.val
 have ⟨_,_,_,_,hno⟩:=hwn
 generalize val2 q=r at h e1 r0' hf8
 subst e1
 have hmul:=aaY x.m r hmf ⟨by have:=hf8.1;omega,by have:=hf8.2;omega⟩ hm0 r0'
 have hwk:IntKind.i64.wrap (lo+(n:Int))=lo+(n:Int):=by rw [i64_in]<;>omega
 rw [<- hwk] at h
 obtain ⟨c,hc,hcl⟩:=gS hcs hv
 have hcl:=hcl (IntKind.i64.wrap (lo+(n:Int)))
 have hroom:au (0+1+1) 16=true:=ab (by omega) (by decide)
 have q1 : ∀ (c0:Nat×Nat) (ch:List (Nat×Nat)),(c0::(ch++[(s,n)])).map chD=(c0::ch).map chD++[chD (s,n)]:=by intro c0 ch;simp
 have q2 : ∀ ch:List (Nat×Nat),(ch++[(s,n)]).length=ch.length+1:=by intro ch;simp
 · unfold ah
   (refine Z3r ?_;(repeat first | (refine fw (oVX rfl hp rfl rfl rfl rfl rfl rfl rfl rfl (o0 ⟨rfl,rfl⟩)) ?_;refine Z3r ?_) | (refine fw (oaD (chD (s,n)) rfl rfl rfl (by simp) rfl hroom rfl (o0 ⟨rfl,rfl⟩)) ?_;refine Z3r ?_) | (refine fw (oim rfl rfl rfl rfl rfl (by rw [hst];first | exact ho | exact hu) (by rw [av,List.length_map,Nat.zero_add];first | exact Nat.le_refl _ | (rw [List.length_set];exact Nat.le_refl _)) (o0 ⟨rfl,rfl⟩)) ?_;refine Z3r ?_) | (refine fw (osD rfl (Nat.zero_add _) rfl rfl rfl (by rw [List.length_map];(try rw [List.length_set]);rw [hst];first | exact ho | exact hu) (dV _) rfl rfl (dU _ _ _) rfl (o0 ⟨rfl,rfl⟩)) ?_;refine Z3r ?_)))
   rw [hwi]
   refine hdX rfl rfl rfl rfl ?_
   simp only [stq,Shp.kk,Shp.add,chB,q1,q2,List.length_set] at h
   exact h
theorem a8V (F:Fix) (hcs : ∀ c∈F.cs,c.Ok) (x:X) (p:PSt) (shq0:Shp) (hst:x.st.length=F.cs.length) (l:List D) (i:Nat) (hi:i < l.length) (hl:l.length < 1000) (hs0:shq0 ≠ .n0) (htp:shq0.tp=false) (hch:shq0.chl<=10) (v s:Nat) (lo:Int) (w:List D) (n:Nat) (q:D) (p':PSt) (hv:v < F.cs.length) (hw:w∈W0) (h1 : -1<=lo) (h2:lo<=1) (hm0:x.m≠0) (hmf:fit 65536 x.m) (hgp:w[n]?=some q) (hwn:Wn q) (hp:Ret VP (.fn 39) [.d (cmD 2 v s .z (.tab lo w) [] [] [] []),.ptr 0 0 0 0,.ptr 1 0 0 0,.ptr 2 0 0 0] (shq0.pin p) (.d (.tuple [.int .i64 n,.int .i64 0])) (pkS p'.n p'.v p'.j p'.ps p'.L)) (hg:l[i]?=some (cmD 2 v s .z (.tab lo w) [] [] [] [])) {K:List Fr} {Q:Out->Env->aa->Prop} (h:ah VP shq0.kk [0,21,22,23] ag [.ptr 0 0 0 0,.d (.slice l),.d (.int .i64 (l.length:Nat)),.d (.int .i64 (i+1:Nat))] (stq F { x with m:=x.m*val2 (w.getD n p0),st:=x.st.set v (clA F.cs v (lo+(n:Nat))),tk:=x.tk+1 } p' (shq0.add (s,n))) K Q):ah VP shq0.kk [0,21,22,23] ag [.ptr 0 0 0 0,.d (.slice l),.d (.int .i64 (l.length:Nat)),.d (.int .i64 i)] (stq F x p shq0) K Q:=by
 have hwi:=ac i (by omega)
 have ht:decide ((i:Int) < ((l.length:Nat):Int))=true:=decide_eq_true (by omega)
 have ho:=hv
 have hu:=hv
 have hn3:n < w.length:=(List.getElem?_eq_some_iff.1 hgp).1
 have hw3:=se w hw
 have ep:w.getD n p0=q:=by rw [List.getD_eq_getElem?_getD,hgp];rfl
 rw [ep] at h
 have ⟨e1,r0',hf8⟩:=hwn.val
 have ⟨_,_,_,_,hno⟩:=hwn
 generalize val2 q=r at h e1 r0' hf8
 subst e1
 have hmul:=aaY x.m r hmf ⟨by have:=hf8.1;omega,by have:=hf8.2;omega⟩ hm0 r0'
 have hwk:IntKind.i64.wrap (lo+(n:Int))=lo+(n:Int):=by rw [i64_in]<;>omega
 rw [<- hwk] at h
 obtain ⟨c,hc,hcl⟩:=gS hcs hv
 have hcl:=hcl (IntKind.i64.wrap (lo+(n:Int)))
 have hroom:au (shq0.chl+1+1) 16=true:=ab (by omega) (by decide)
 have q1 : ∀ (c0:Nat×Nat) (ch:List (Nat×Nat)),(c0::(ch++[(s,n)])).map chD=(c0::ch).map chD++[chD (s,n)]:=by intro c0 ch;simp
 have q2 : ∀ ch:List (Nat×Nat),(ch++[(s,n)]).length=ch.length+1:=by intro ch;simp
 cases shq0
 case n0=>exact absurd rfl hs0
 case t0=>cases htp
 case ta=>cases htp
 case tc=>cases htp
 all_goals
  unfold ah
  (refine Z3r ?_;(repeat first | (refine fw (oVX rfl hp rfl rfl rfl rfl rfl rfl rfl rfl (o0 ⟨rfl,rfl⟩)) ?_;refine Z3r ?_) | (refine fw (oaD (chD (s,n)) rfl rfl rfl (by simp) rfl hroom rfl (o0 ⟨rfl,rfl⟩)) ?_;refine Z3r ?_) | (refine fw (oim rfl rfl rfl rfl rfl (by rw [hst];first | exact ho | exact hu) (by rw [av,List.length_map,Nat.zero_add];first | exact Nat.le_refl _ | (rw [List.length_set];exact Nat.le_refl _)) (o0 ⟨rfl,rfl⟩)) ?_;refine Z3r ?_) | (refine fw (osD rfl (Nat.zero_add _) rfl rfl rfl (by rw [List.length_map];(try rw [List.length_set]);rw [hst];first | exact ho | exact hu) (dV _) rfl rfl (dU _ _ _) rfl (o0 ⟨rfl,rfl⟩)) ?_;refine Z3r ?_)))
  rw [hwi]
  refine hdX rfl rfl rfl rfl ?_
  simp only [stq,Shp.kk,Shp.add,chB,q1,q2,List.length_set] at h
  exact h
theorem a8U (F:Fix) (hcs : ∀ c∈F.cs,c.Ok) (x:X) (p:PSt) (shq0:Shp) (hst:x.st.length=F.cs.length) (l:List D) (i:Nat) (hi:i < l.length) (hl:l.length < 1000) (htp:shq0.tp=true) (hch:shq0.chl<=10) (v s:Nat) (lo:Int) (w:List D) (n:Nat) (q:D) (hv:v < F.cs.length) (hw:w∈W0) (h1 : -1<=lo) (h2:lo<=1) (hm0:x.m≠0) (hmf:fit 65536 x.m) (hgp:w[n]?=some q) (hwn:Wn q) (hp:Ret VP (.fn 441) [.ptr 0 0 0 0,.d (cmD 2 v s .z (.tab lo w) [] [] [] [])] [some (rdB F.b F.ts x.tk)] (.d (.tuple [.int .i64 n,.int .i64 0])) [some (rdB F.b F.ts (x.tk+1))]) (hg:l[i]?=some (cmD 2 v s .z (.tab lo w) [] [] [] [])) {K:List Fr} {Q:Out->Env->aa->Prop} (h:ah VP shq0.kk [0,21,22,23] ag [.ptr 0 0 0 0,.d (.slice l),.d (.int .i64 (l.length:Nat)),.d (.int .i64 (i+1:Nat))] (stq F { x with m:=x.m*val2 (w.getD n p0),st:=x.st.set v (clA F.cs v (lo+(n:Nat))),tk:=x.tk+1 } p (shq0.add (s,n))) K Q):ah VP shq0.kk [0,21,22,23] ag [.ptr 0 0 0 0,.d (.slice l),.d (.int .i64 (l.length:Nat)),.d (.int .i64 i)] (stq F x p shq0) K Q:=by
 have hwi:=ac i (by omega)
 have ht:decide ((i:Int) < ((l.length:Nat):Int))=true:=decide_eq_true (by omega)
 have ho:=hv
 have hu:=hv
 have hn3:n < w.length:=(List.getElem?_eq_some_iff.1 hgp).1
 have hw3:=se w hw
 have ep:w.getD n p0=q:=by rw [List.getD_eq_getElem?_getD,hgp];rfl
 rw [ep] at h
 have ⟨e1,r0',hf8⟩:=hwn.val
 have ⟨_,_,_,_,hno⟩:=hwn
 generalize val2 q=r at h e1 r0' hf8
 subst e1
 have hmul:=aaY x.m r hmf ⟨by have:=hf8.1;omega,by have:=hf8.2;omega⟩ hm0 r0'
 have hwk:IntKind.i64.wrap (lo+(n:Int))=lo+(n:Int):=by rw [i64_in]<;>omega
 rw [<- hwk] at h
 obtain ⟨c,hc,hcl⟩:=gS hcs hv
 have hcl:=hcl (IntKind.i64.wrap (lo+(n:Int)))
 have hroom:au (shq0.chl+1+1) 16=true:=ab (by omega) (by decide)
 have q1 : ∀ (c0:Nat×Nat) (ch:List (Nat×Nat)),(c0::(ch++[(s,n)])).map chD=(c0::ch).map chD++[chD (s,n)]:=by intro c0 ch;simp
 have q2 : ∀ ch:List (Nat×Nat),(ch++[(s,n)]).length=ch.length+1:=by intro ch;simp
 cases shq0
 case n0=>cases htp
 case n1=>cases htp
 case a0=>cases htp
 case a1=>cases htp
 case c8=>cases htp
 all_goals
  unfold ah
  (refine Z3r ?_;(repeat first | (refine fw (oVX rfl hp rfl rfl rfl rfl rfl rfl rfl rfl (o0 ⟨rfl,rfl⟩)) ?_;refine Z3r ?_) | (refine fw (oaD (chD (s,n)) rfl rfl rfl (by simp) rfl hroom rfl (o0 ⟨rfl,rfl⟩)) ?_;refine Z3r ?_) | (refine fw (oim rfl rfl rfl rfl rfl (by rw [hst];first | exact ho | exact hu) (by rw [av,List.length_map,Nat.zero_add];first | exact Nat.le_refl _ | (rw [List.length_set];exact Nat.le_refl _)) (o0 ⟨rfl,rfl⟩)) ?_;refine Z3r ?_) | (refine fw (osD rfl (Nat.zero_add _) rfl rfl rfl (by rw [List.length_map];(try rw [List.length_set]);rw [hst];first | exact ho | exact hu) (dV _) rfl rfl (dU _ _ _) rfl (o0 ⟨rfl,rfl⟩)) ?_;refine Z3r ?_)))
  rw [hwi]
  refine hdX rfl rfl rfl rfl ?_
  simp only [stq,Shp.kk,Shp.add,chB,q1,q2,List.length_set] at h
  exact h
abbrev Shp.ent:Shp->Shp
 | .n0 => .n0
 | .n1 => .n1
 | .a0 c ch => .c8 c ch
 | .a1 c ch => .c8 c ch
 | .c8 c ch => .c8 c ch
 | .t0 => .t0
 | .ta c ch => .tc c ch
 | .tc c ch => .tc c ch
inductive AftS:Shp->Shp->Shp->Prop
 | nn0:AftS .n0 .n0 .n0
 | na0 (c:Nat×Nat) (ch:List (Nat×Nat)):AftS .n0 (.a0 c ch) (.a0 c ch)
 | nn1:AftS .n1 .n1 .n1
 | na1 (c:Nat×Nat) (ch:List (Nat×Nat)):AftS .n1 (.a1 c ch) (.a1 c ch)
 | aax0 (c d:Nat×Nat) (ch dhq0:List (Nat×Nat)):AftS (.a0 c ch) (.c8 d dhq0) (.a0 d dhq0)
 | aax1 (c d:Nat×Nat) (ch dhq0:List (Nat×Nat)):AftS (.a1 c ch) (.c8 d dhq0) (.a1 d dhq0)
 | cc (c d:Nat×Nat) (ch dhq0:List (Nat×Nat)):AftS (.c8 c ch) (.c8 d dhq0) (.c8 d dhq0)
 | t00:AftS .t0 .t0 .t0
 | t0a (c:Nat×Nat) (ch:List (Nat×Nat)):AftS .t0 (.ta c ch) (.ta c ch)
 | taa (c d:Nat×Nat) (ch dhq0:List (Nat×Nat)):AftS (.ta c ch) (.tc d dhq0) (.ta d dhq0)
 | tcc (c d:Nat×Nat) (ch dhq0:List (Nat×Nat)):AftS (.tc c ch) (.tc d dhq0) (.tc d dhq0)
theorem a8K (F:Fix) (hcs : ∀ c∈F.cs,c.Ok) (x:X) (p:PSt) (shq0:Shp) (hst:x.st.length=F.cs.length) (l:List D) (i:Nat) (hi:i < l.length) (hl:l.length < 1000) (y:X) (p':PSt) (req0 sh':Shp) (hA:AftS shq0 req0 sh') (f:Fo) (a b:List D) (hf:cU F.cs.length f) (hg:l[i]?=some (cmD 3 0 0 f .z a b [] [])) (h0:f.ev x.st≠0) (hr:Ret VP (.fn 67) [.ptr 0 0 0 0,.d (.slice a)] (stq F x p shq0.ent) (.d (.bool true)) (stq F y p' req0)) {K:List Fr} {Q:Out->Env->aa->Prop} (h:ah VP shq0.kk [0,21,22,23] ag [.ptr 0 0 0 0,.d (.slice l),.d (.int .i64 (l.length:Nat)),.d (.int .i64 (i+1:Nat))] (stq F y p' sh') K Q):ah VP shq0.kk [0,21,22,23] ag [.ptr 0 0 0 0,.d (.slice l),.d (.int .i64 (l.length:Nat)),.d (.int .i64 i)] (stq F x p shq0) K Q:=by
 have hwi:=ac i (by omega)
 have ht:decide ((i:Int) < ((l.length:Nat):Int))=true:=decide_eq_true (by omega)
 have hE:=aE F.cs.length x.st hst f hf.1 (by have:=hf.2.1;omega) (by have:=hf.2.2;omega)
 have t0:(f.ev x.st != 0)=true:=by simpa using h0
 cases hA
 all_goals
  unfold ah
  (refine Z3r ?_;(repeat first | (refine fw (bR hE (aK rfl (by simp) (bM _)) rfl rfl (o0 ⟨rfl,rfl⟩)) ?_;refine Z3r ?_) | (refine oRX hr rfl rfl rfl rfl rfl rfl rfl rfl ?_;refine Z3r ?_)))
  rw [hwi]
  refine hdX rfl rfl rfl rfl ?_
  exact h
theorem a7S (F:Fix) (hcs : ∀ c∈F.cs,c.Ok) (x:X) (p:PSt) (shq0:Shp) (hst:x.st.length=F.cs.length) (l:List D) (i:Nat) (hi:i < l.length) (hl:l.length < 1000) (y:X) (p':PSt) (req0 sh':Shp) (hA:AftS shq0 req0 sh') (f:Fo) (a b:List D) (hf:cU F.cs.length f) (hg:l[i]?=some (cmD 3 0 0 f .z a b [] [])) (h0:f.ev x.st≠0) (hr:Ret VP (.fn 67) [.ptr 0 0 0 0,.d (.slice a)] (stq F x p shq0.ent) (.d (.bool false)) (stq F y p' req0)) {K:List Fr} : ah VP shq0.kk [0,21,22,23] ag [.ptr 0 0 0 0,.d (.slice l),.d (.int .i64 (l.length:Nat)),.d (.int .i64 i)] (stq F x p shq0) K (fun o e s=>fin f67.keep shq0.kk f67.res o e s=some (.d (.bool false),(stq F y p' sh'))):=by
 have hwi:=ac i (by omega)
 have ht:decide ((i:Int) < ((l.length:Nat):Int))=true:=decide_eq_true (by omega)
 have hE:=aE F.cs.length x.st hst f hf.1 (by have:=hf.2.1;omega) (by have:=hf.2.2;omega)
 have t0:(f.ev x.st != 0)=true:=by simpa using h0
 cases hA
 all_goals
  unfold ah
  (refine Z3r ?_;(repeat first | (refine fw (bR hE (aK rfl (by simp) (bM _)) rfl rfl (o0 ⟨rfl,rfl⟩)) ?_;refine Z3r ?_) | (refine oRX hr rfl rfl rfl rfl rfl rfl rfl rfl ?_;refine Z3r ?_)))
  exact kG (xs:=[.d (.bool false)]) rfl rfl rfl rfl
theorem a8L (F:Fix) (hcs : ∀ c∈F.cs,c.Ok) (x:X) (p:PSt) (shq0:Shp) (hst:x.st.length=F.cs.length) (l:List D) (i:Nat) (hi:i < l.length) (hl:l.length < 1000) (y:X) (p':PSt) (req0 sh':Shp) (hA:AftS shq0 req0 sh') (f:Fo) (a b:List D) (hf:cU F.cs.length f) (hg:l[i]?=some (cmD 3 0 0 f .z a b [] [])) (h0:f.ev x.st=0) (hr:Ret VP (.fn 67) [.ptr 0 0 0 0,.d (.slice b)] (stq F x p shq0.ent) (.d (.bool true)) (stq F y p' req0)) {K:List Fr} {Q:Out->Env->aa->Prop} (h:ah VP shq0.kk [0,21,22,23] ag [.ptr 0 0 0 0,.d (.slice l),.d (.int .i64 (l.length:Nat)),.d (.int .i64 (i+1:Nat))] (stq F y p' sh') K Q):ah VP shq0.kk [0,21,22,23] ag [.ptr 0 0 0 0,.d (.slice l),.d (.int .i64 (l.length:Nat)),.d (.int .i64 i)] (stq F x p shq0) K Q:=by
 have hwi:=ac i (by omega)
 have ht:decide ((i:Int) < ((l.length:Nat):Int))=true:=decide_eq_true (by omega)
 have hE:=aE F.cs.length x.st hst f hf.1 (by have:=hf.2.1;omega) (by have:=hf.2.2;omega)
 have t0:(f.ev x.st != 0)=false:=by simpa using h0
 cases hA
 all_goals
  unfold ah
  (refine Z3r ?_;(repeat first | (refine fw (bR hE (aK rfl (by simp) (bM _)) rfl rfl (o0 ⟨rfl,rfl⟩)) ?_;refine Z3r ?_) | (refine oRX hr rfl rfl rfl rfl rfl rfl rfl rfl ?_;refine Z3r ?_)))
  rw [hwi]
  refine hdX rfl rfl rfl rfl ?_
  exact h
theorem a7T (F:Fix) (hcs : ∀ c∈F.cs,c.Ok) (x:X) (p:PSt) (shq0:Shp) (hst:x.st.length=F.cs.length) (l:List D) (i:Nat) (hi:i < l.length) (hl:l.length < 1000) (y:X) (p':PSt) (req0 sh':Shp) (hA:AftS shq0 req0 sh') (f:Fo) (a b:List D) (hf:cU F.cs.length f) (hg:l[i]?=some (cmD 3 0 0 f .z a b [] [])) (h0:f.ev x.st=0) (hr:Ret VP (.fn 67) [.ptr 0 0 0 0,.d (.slice b)] (stq F x p shq0.ent) (.d (.bool false)) (stq F y p' req0)) {K:List Fr} : ah VP shq0.kk [0,21,22,23] ag [.ptr 0 0 0 0,.d (.slice l),.d (.int .i64 (l.length:Nat)),.d (.int .i64 i)] (stq F x p shq0) K (fun o e s=>fin f67.keep shq0.kk f67.res o e s=some (.d (.bool false),(stq F y p' sh'))):=by
 have hwi:=ac i (by omega)
 have ht:decide ((i:Int) < ((l.length:Nat):Int))=true:=decide_eq_true (by omega)
 have hE:=aE F.cs.length x.st hst f hf.1 (by have:=hf.2.1;omega) (by have:=hf.2.2;omega)
 have t0:(f.ev x.st != 0)=false:=by simpa using h0
 cases hA
 all_goals
  unfold ah
  (refine Z3r ?_;(repeat first | (refine fw (bR hE (aK rfl (by simp) (bM _)) rfl rfl (o0 ⟨rfl,rfl⟩)) ?_;refine Z3r ?_) | (refine oRX hr rfl rfl rfl rfl rfl rfl rfl rfl ?_;refine Z3r ?_)))
  exact kG (xs:=[.d (.bool false)]) rfl rfl rfl rfl
theorem a87 (F:Fix) (hcs : ∀ c∈F.cs,c.Ok) (x:X) (p:PSt) (shq0:Shp) (hst:x.st.length=F.cs.length) (l:List D) (i:Nat) (hi:i < l.length) (hl:l.length < 1000) (o:Nat) (f:Fo) (ho:o < F.cs.length) (hf:cU F.cs.length f) (hg:l[i]?=some (cmD 1 0 0 .z .z [] [] [f.d] [oD o])) {K:List Fr} {Q:Out->Env->aa->Prop} (h:ah VP shq0.kk [0,21,22,23] ag [.ptr 0 0 0 0,.d (.slice l),.d (.int .i64 (l.length:Nat)),.d (.int .i64 (i+1:Nat))] (stq F { x with st:=x.st.set o (clA F.cs o (f.ev x.st)) } p shq0) K Q):ah VP shq0.kk [0,21,22,23] ag [.ptr 0 0 0 0,.d (.slice l),.d (.int .i64 (l.length:Nat)),.d (.int .i64 i)] (stq F x p shq0) K Q:=by
 have hwi:=ac i (by omega)
 have ht:decide ((i:Int) < ((l.length:Nat):Int))=true:=decide_eq_true (by omega)
 have hE:=aE F.cs.length x.st hst f hf.1 (by have:=hf.2.1;omega) (by have:=hf.2.2;omega)
 have hu:=ho
 obtain ⟨c,hc,hcl⟩:=gS hcs ho
 have hcl:=hcl (f.ev x.st)
 cases shq0
 all_goals
  unfold ah
  refine Z3r ?_
  refine lhX rfl rfl rfl rfl ?_
  (refine Z3r ?_;(repeat first | (refine fw (bR hE (aK rfl (by simp) (bM _)) rfl rfl (o0 ⟨rfl,rfl⟩)) ?_;refine Z3r ?_)))
  refine lhX rfl rfl rfl rfl ?_
  refine Z3r ?_
  refine lhX rfl rfl rfl rfl ?_
  (refine Z3r ?_;(repeat first | (refine fw (oim rfl rfl rfl rfl rfl (by rw [hst];first | exact ho | exact hu) (by rw [av,List.length_map,Nat.zero_add];first | exact Nat.le_refl _ | (rw [List.length_set];exact Nat.le_refl _)) (o0 ⟨rfl,rfl⟩)) ?_;refine Z3r ?_) | (refine fw (osD rfl (Nat.zero_add _) rfl rfl rfl (by rw [List.length_map];(try rw [List.length_set]);rw [hst];first | exact ho | exact hu) (dV _) rfl rfl (dU _ _ _) rfl (o0 ⟨rfl,rfl⟩)) ?_;refine Z3r ?_)))
  refine lhX rfl rfl rfl rfl ?_
  refine Z3r ?_
  rw [hwi]
  refine hdX rfl rfl rfl rfl ?_
  simp only [stq,Shp.kk,List.length_set] at h
  exact h
end Go.Proofs.YtncfpmehhfdipaaGreat
