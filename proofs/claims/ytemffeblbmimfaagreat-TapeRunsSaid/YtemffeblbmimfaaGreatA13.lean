/- Modules in general: outcomes by the numbers of a tape. -/
import Derived.Test.YtemffeblbmimfaaGreatA08
import Derived.Test.YtemffeblbmimfaaGreatA11
import Derived.Test.YtemffeblbmimfaaGreatA12
import Derived.KernelRfl
import Derived.Test.YtemffeblbmimfaaGreatA06
set_option linter.unusedSimpArgs false
set_option linter.unusedVariables false
set_option linter.unnecessarySimpa false
namespace Go.Proofs.YtemffeblbmimfaaGreat
open Go.IntWalk
attribute [local irreducible] au
set_option maxHeartbeats 4000000
set_option maxRecDepth 100000
def am8:D->Rat
 | .slice [.agg [_,_,_,_,_,_,_,_,_,.slice [.int _ n],.slice [.int _ d]]]=>mkRat n d.toNat
 | _=>0
def pkL:List Rat->Rat->Nat
 | [],_=>0
 | s::l,q=>if 0 < sgQ (s - q) then 0 else pkL l q+1
def bW:Rat->List D->List Rat
 | _,[]=>[]
 | s,p::l=>(s+am8 p)::bW (s+am8 p) l
def pk (w:List D) (q:Rat):Nat:=pkL (bW 0 w) q
def lit (n d:Int):D := .agg [.bool false,.slice [.int .u32 n],.slice [.int .u32 d]]
def uZ:D := .agg [.bool false,.slice [],.slice [.int .u32 1]]
theorem wB:qD (mkRat 0 1)=uZ:=by kernel_rfl
theorem bE:qD (mkRat 1 1)=lit 1 1:=by kernel_rfl
theorem kB:qD (mkRat 1 2)=lit 1 2:=by kernel_rfl
theorem mH:qD (mkRat 1 3)=lit 1 3:=by kernel_rfl
theorem mG:qD (mkRat 1 4)=lit 1 4:=by kernel_rfl
theorem wz:qD (mkRat 1 5)=lit 1 5:=by kernel_rfl
theorem q7:qD (mkRat 2 3)=lit 2 3:=by kernel_rfl
theorem wy:qD (mkRat 2 5)=lit 2 5:=by kernel_rfl
theorem mF:qD (mkRat 3 4)=lit 3 4:=by kernel_rfl
theorem wx:qD (mkRat 3 5)=lit 3 5:=by kernel_rfl
theorem ww:qD (mkRat 4 5)=lit 4 5:=by kernel_rfl
theorem wv:qD (mkRat 5 6)=lit 5 6:=by kernel_rfl
theorem wu:qD (mkRat 7 8)=lit 7 8:=by kernel_rfl
theorem Ju:D.agg (aR 1 1)=ct (mkRat 1 1):=by kernel_rfl
theorem Jt:D.agg (aR 1 2)=ct (mkRat 1 2):=by kernel_rfl
theorem Js:D.agg (aR 1 3)=ct (mkRat 1 3):=by kernel_rfl
theorem Jr:D.agg (aR 1 4)=ct (mkRat 1 4):=by kernel_rfl
theorem Jq:D.agg (aR 1 5)=ct (mkRat 1 5):=by kernel_rfl
theorem Jp:D.agg (aR 1 6)=ct (mkRat 1 6):=by kernel_rfl
theorem Jo:D.agg (aR 1 8)=ct (mkRat 1 8):=by kernel_rfl
theorem Jn:D.agg (aR 2 3)=ct (mkRat 2 3):=by kernel_rfl
theorem Jm:D.agg (aR 2 5)=ct (mkRat 2 5):=by kernel_rfl
theorem Jl:D.agg (aR 3 4)=ct (mkRat 3 4):=by kernel_rfl
theorem Jk:D.agg (aR 3 5)=ct (mkRat 3 5):=by kernel_rfl
theorem Jj:D.agg (aR 4 5)=ct (mkRat 4 5):=by kernel_rfl
theorem Ji:D.agg (aR 5 8)=ct (mkRat 5 8):=by kernel_rfl
def aaE (r:Rat):Prop:=r.num.natAbs<=8/\r.den<=8
def Wn (p:D):Prop := ∃ r:Rat,p = .slice [ct r]/\r≠0/\aaE r/\Ret VP (.fn 68) [.d p] [] (.d (.tuple [p,.int .i64 0])) []
theorem uI:Wn (pl 1 1):=⟨mkRat 1 1,by rw [<- Ju];rfl,by decide +kernel,by constructor<;>decide +kernel,aIO⟩
theorem ii:Wn (pl 1 2):=⟨mkRat 1 2,by rw [<- Jt];rfl,by decide +kernel,by constructor<;>decide +kernel,aUR⟩
theorem jn:Wn (pl 1 3):=⟨mkRat 1 3,by rw [<- Js];rfl,by decide +kernel,by constructor<;>decide +kernel,aUE⟩
theorem ig:Wn (pl 1 4):=⟨mkRat 1 4,by rw [<- Jr];rfl,by decide +kernel,by constructor<;>decide +kernel,aUK⟩
theorem uH:Wn (pl 1 5):=⟨mkRat 1 5,by rw [<- Jq];rfl,by decide +kernel,by constructor<;>decide +kernel,aII⟩
theorem Hn:Wn (pl 1 6):=⟨mkRat 1 6,by rw [<- Jp];rfl,by decide +kernel,by constructor<;>decide +kernel,aU5⟩
theorem Hm:Wn (pl 1 8):=⟨mkRat 1 8,by rw [<- Jo];rfl,by decide +kernel,by constructor<;>decide +kernel,aIS⟩
theorem uG:Wn (pl 2 3):=⟨mkRat 2 3,by rw [<- Jn];rfl,by decide +kernel,by constructor<;>decide +kernel,aIY⟩
theorem uF:Wn (pl 2 5):=⟨mkRat 2 5,by rw [<- Jm];rfl,by decide +kernel,by constructor<;>decide +kernel,aID⟩
theorem uE:Wn (pl 3 4):=⟨mkRat 3 4,by rw [<- Jl];rfl,by decide +kernel,by constructor<;>decide +kernel,aIM⟩
theorem uD:Wn (pl 3 5):=⟨mkRat 3 5,by rw [<- Jk];rfl,by decide +kernel,by constructor<;>decide +kernel,aIF⟩
theorem uC:Wn (pl 4 5):=⟨mkRat 4 5,by rw [<- Jj];rfl,by decide +kernel,by constructor<;>decide +kernel,aIK⟩
theorem Hl:Wn (pl 5 8):=⟨mkRat 5 8,by rw [<- Ji];rfl,by decide +kernel,by constructor<;>decide +kernel,aIW⟩
theorem bv {x:Int} (h:¬ 0 < x):decide (x > 0)=false:=decide_eq_false h
theorem aQ {x:Int} (h:0 < x):decide (x > 0)=true:=decide_eq_true h
theorem vM {r:Rat} (h:0 < r):0 < sgQ r:=by
 have h1:0 < r.num:=by
  have h2:0<=r.num:=Rat.num_nonneg.2 (Rat.le_of_lt h)
  have h3:r.num≠0:=fun h3=>by rw [Rat.num_eq_zero.1 h3] at h;exact absurd h (Rat.lt_irrefl)
  omega
 unfold sgQ
 rw [if_neg (by omega),if_neg (by omega)];decide
theorem vN {r:Rat} (h:r<=0):¬ 0 < sgQ r:=by
 have h1:¬ 0 < r.num:=fun h2=>by
  have h3:r=0:=Rat.le_antisymm h (Rat.num_nonneg.1 (by omega))
  rw [h3] at h2;exact absurd h2 (by decide)
 unfold sgQ
 split
 · omega
 · rw [if_pos (by omega)];decide
structure Frq (q:Rat):Prop where
 h0:0<=q
 h1:q < 1
 hf:fit 65536 q
theorem Frq.last {q:Rat} (h:Frq q):0 < sgQ (mkRat 1 1 - q):=vM (by
 have h1:=h.h1
 have e:(mkRat 1 1:Rat)=1:=by decide +kernel
 rw [e];grind)
theorem Frq.first {q:Rat} (h:Frq q):¬ 0 < sgQ (mkRat 0 1 - q):=vN (by
 have h1:=h.h0
 have e:(mkRat 0 1:Rat)=0:=by decide +kernel
 rw [e];grind)
def rdB (b:Nat) (ts:List Nat) (n:Nat):Blk := .rows 0 false 3 [[.d (.int .i64 b),.d (.slice (ts.map oD)),.d (.int .i64 n)]]
theorem H1:bW 0 w0=[mkRat 1 2,mkRat 1 2,mkRat 1 1]:=by decide +kernel
theorem IH (v s:Int) (lo:Int) (b:Nat) (ts:List Nat) (n t:Nat) (q:Rat) (hq:Frq q) (ht:ts[n]?=some t) (htb:t < b) (hb:b<=1000) (hn:n < 1000) (hlen:n < ts.length) (hnew:Ret VP (.fn 442) [.d (.int .i64 t),.d (.int .i64 b)] [] (.d (.tuple [qD q,.int .i64 0])) []) :
 Ret VP (.fn 441) [.ptr 0 0 0 0,.d (cmD 2 v s .z (.tab lo w0) [] [] [] [])] [some (rdB b ts n)] (.d (.tuple [.int .i64 (pk w0 q:Nat),.int .i64 0])) [some (rdB b ts (n+1))] /\ ∃ p,w0[pk w0 q]?=some p/\Wn p:=by
 have hw:=ac n (by omega)
 have g:(ts.map oD)[n]?=some (oD t):=by rw [List.getElem?_map,ht];rfl
 have t0:((n:Int)==(((ts.map oD).length:Nat):Int))=false:=by rw [List.length_map];simp;omega
 have t1:¬ (t:Int) < 0:=by omega
 have t2:¬ (t:Int)>=(b:Int):=by omega
 unfold pk
 rw [H1]
 simp only [pkL]
 have m0:Ret VP (.fn 214) [.d (lit 1 2),.d (qD q)] [] (.d (.int .i64 (sgQ (mkRat 1 2 - q)))) []:=by
  have h:=dH (mkRat 1 2) q (by constructor<;>decide +kernel) hq.hf
  rwa [kB] at h
 have m1:Ret VP (.fn 214) [.d (lit 1 2),.d (qD q)] [] (.d (.int .i64 (sgQ (mkRat 1 2 - q)))) []:=by
  have h:=dH (mkRat 1 2) q (by constructor<;>decide +kernel) hq.hf
  rwa [kB] at h
 have m2:Ret VP (.fn 214) [.d (lit 1 1),.d (qD q)] [] (.d (.int .i64 (sgQ (mkRat 1 1 - q)))) []:=by
  have h:=dH (mkRat 1 1) q (by constructor<;>decide +kernel) hq.hf
  rwa [bE] at h
 by_cases c0:0 < sgQ (mkRat 1 2 - q)
 · rw [if_pos c0]
   refine ⟨?_,pl 1 2,rfl,ii⟩
   unfold rdB
   refine ret_of rfl rfl (r0 ?_)
   (have hz1:=decide_eq_false t1;have hz2:=decide_eq_false t2;have hz3:=asM;have hz4:=atP;have hz5:=axA;have hz6:=axZ;have hz7:=aBD;have hz8:=aHE;have hz9:=aQ c0;refine Z2 ?_)
   refine fe rfl rfl ?_
   rw [hw]
   rfl
 · rw [if_neg c0]
   rw [if_neg c0]
   have c2:=hq.last
   rw [if_pos c2]
   refine ⟨?_,pl 1 2,rfl,ii⟩
   unfold rdB
   refine ret_of rfl rfl (r0 ?_)
   (have hz10:=decide_eq_false t1;have hz11:=decide_eq_false t2;have hz12:=asM;have hz13:=atP;have hz14:=axA;have hz15:=axZ;have hz16:=aBD;have hz17:=aHE;have hz18:=bv c0;have hz19:=aQ c2;refine Z2 ?_)
   refine fe rfl rfl ?_
   rw [hw]
   rfl
theorem H0:bW 0 w1=[mkRat 1 2,mkRat 3 4,mkRat 1 1]:=by decide +kernel
theorem IG (v s:Int) (lo:Int) (b:Nat) (ts:List Nat) (n t:Nat) (q:Rat) (hq:Frq q) (ht:ts[n]?=some t) (htb:t < b) (hb:b<=1000) (hn:n < 1000) (hlen:n < ts.length) (hnew:Ret VP (.fn 442) [.d (.int .i64 t),.d (.int .i64 b)] [] (.d (.tuple [qD q,.int .i64 0])) []) :
 Ret VP (.fn 441) [.ptr 0 0 0 0,.d (cmD 2 v s .z (.tab lo w1) [] [] [] [])] [some (rdB b ts n)] (.d (.tuple [.int .i64 (pk w1 q:Nat),.int .i64 0])) [some (rdB b ts (n+1))] /\ ∃ p,w1[pk w1 q]?=some p/\Wn p:=by
 have hw:=ac n (by omega)
 have g:(ts.map oD)[n]?=some (oD t):=by rw [List.getElem?_map,ht];rfl
 have t0:((n:Int)==(((ts.map oD).length:Nat):Int))=false:=by rw [List.length_map];simp;omega
 have t1:¬ (t:Int) < 0:=by omega
 have t2:¬ (t:Int)>=(b:Int):=by omega
 unfold pk
 rw [H0]
 simp only [pkL]
 have m0:Ret VP (.fn 214) [.d (lit 1 2),.d (qD q)] [] (.d (.int .i64 (sgQ (mkRat 1 2 - q)))) []:=by
  have h:=dH (mkRat 1 2) q (by constructor<;>decide +kernel) hq.hf
  rwa [kB] at h
 have m1:Ret VP (.fn 214) [.d (lit 3 4),.d (qD q)] [] (.d (.int .i64 (sgQ (mkRat 3 4 - q)))) []:=by
  have h:=dH (mkRat 3 4) q (by constructor<;>decide +kernel) hq.hf
  rwa [mF] at h
 have m2:Ret VP (.fn 214) [.d (lit 1 1),.d (qD q)] [] (.d (.int .i64 (sgQ (mkRat 1 1 - q)))) []:=by
  have h:=dH (mkRat 1 1) q (by constructor<;>decide +kernel) hq.hf
  rwa [bE] at h
 by_cases c0:0 < sgQ (mkRat 1 2 - q)
 · rw [if_pos c0]
   refine ⟨?_,pl 1 2,rfl,ii⟩
   unfold rdB
   refine ret_of rfl rfl (r0 ?_)
   (have hz20:=decide_eq_false t1;have hz21:=decide_eq_false t2;have hz22:=asM;have hz23:=atP;have hz24:=axA;have hz25:=asZ;have hz26:=aIB;have hz27:=axC;have hz28:=aQ c0;refine Z2 ?_)
   refine fe rfl rfl ?_
   rw [hw]
   rfl
 · rw [if_neg c0]
   by_cases c1:0 < sgQ (mkRat 3 4 - q)
   · rw [if_pos c1]
     refine ⟨?_,pl 1 4,rfl,ig⟩
     unfold rdB
     refine ret_of rfl rfl (r0 ?_)
     (have hz29:=decide_eq_false t1;have hz30:=decide_eq_false t2;have hz31:=asM;have hz32:=atP;have hz33:=axA;have hz34:=asZ;have hz35:=aIB;have hz36:=axC;have hz37:=bv c0;have hz38:=aQ c1;refine Z2 ?_)
     refine fe rfl rfl ?_
     rw [hw]
     rfl
   · rw [if_neg c1]
     have c2:=hq.last
     rw [if_pos c2]
     refine ⟨?_,pl 1 4,rfl,ig⟩
     unfold rdB
     refine ret_of rfl rfl (r0 ?_)
     (have hz39:=decide_eq_false t1;have hz40:=decide_eq_false t2;have hz41:=asM;have hz42:=atP;have hz43:=axA;have hz44:=asZ;have hz45:=aIB;have hz46:=axC;have hz47:=bv c0;have hz48:=bv c1;have hz49:=aQ c2;refine Z2 ?_)
     refine fe rfl rfl ?_
     rw [hw]
     rfl
theorem HZ:bW 0 w2=[mkRat 1 3,mkRat 2 3,mkRat 1 1]:=by decide +kernel
theorem IF (v s:Int) (lo:Int) (b:Nat) (ts:List Nat) (n t:Nat) (q:Rat) (hq:Frq q) (ht:ts[n]?=some t) (htb:t < b) (hb:b<=1000) (hn:n < 1000) (hlen:n < ts.length) (hnew:Ret VP (.fn 442) [.d (.int .i64 t),.d (.int .i64 b)] [] (.d (.tuple [qD q,.int .i64 0])) []) :
 Ret VP (.fn 441) [.ptr 0 0 0 0,.d (cmD 2 v s .z (.tab lo w2) [] [] [] [])] [some (rdB b ts n)] (.d (.tuple [.int .i64 (pk w2 q:Nat),.int .i64 0])) [some (rdB b ts (n+1))] /\ ∃ p,w2[pk w2 q]?=some p/\Wn p:=by
 have hw:=ac n (by omega)
 have g:(ts.map oD)[n]?=some (oD t):=by rw [List.getElem?_map,ht];rfl
 have t0:((n:Int)==(((ts.map oD).length:Nat):Int))=false:=by rw [List.length_map];simp;omega
 have t1:¬ (t:Int) < 0:=by omega
 have t2:¬ (t:Int)>=(b:Int):=by omega
 unfold pk
 rw [HZ]
 simp only [pkL]
 have m0:Ret VP (.fn 214) [.d (lit 1 3),.d (qD q)] [] (.d (.int .i64 (sgQ (mkRat 1 3 - q)))) []:=by
  have h:=dH (mkRat 1 3) q (by constructor<;>decide +kernel) hq.hf
  rwa [mH] at h
 have m1:Ret VP (.fn 214) [.d (lit 2 3),.d (qD q)] [] (.d (.int .i64 (sgQ (mkRat 2 3 - q)))) []:=by
  have h:=dH (mkRat 2 3) q (by constructor<;>decide +kernel) hq.hf
  rwa [q7] at h
 have m2:Ret VP (.fn 214) [.d (lit 1 1),.d (qD q)] [] (.d (.int .i64 (sgQ (mkRat 1 1 - q)))) []:=by
  have h:=dH (mkRat 1 1) q (by constructor<;>decide +kernel) hq.hf
  rwa [bE] at h
 by_cases c0:0 < sgQ (mkRat 1 3 - q)
 · rw [if_pos c0]
   refine ⟨?_,pl 1 3,rfl,jn⟩
   unfold rdB
   refine ret_of rfl rfl (r0 ?_)
   (have hz50:=decide_eq_false t1;have hz51:=decide_eq_false t2;have hz52:=asM;have hz53:=at6;have hz54:=at9;have hz55:=aI9;have hz56:=aA8;have hz57:=aQ c0;refine Z2 ?_)
   refine fe rfl rfl ?_
   rw [hw]
   rfl
 · rw [if_neg c0]
   by_cases c1:0 < sgQ (mkRat 2 3 - q)
   · rw [if_pos c1]
     refine ⟨?_,pl 1 3,rfl,jn⟩
     unfold rdB
     refine ret_of rfl rfl (r0 ?_)
     (have hz58:=decide_eq_false t1;have hz59:=decide_eq_false t2;have hz60:=asM;have hz61:=at6;have hz62:=at9;have hz63:=aI9;have hz64:=aA8;have hz65:=bv c0;have hz66:=aQ c1;refine Z2 ?_)
     refine fe rfl rfl ?_
     rw [hw]
     rfl
   · rw [if_neg c1]
     have c2:=hq.last
     rw [if_pos c2]
     refine ⟨?_,pl 1 3,rfl,jn⟩
     unfold rdB
     refine ret_of rfl rfl (r0 ?_)
     (have hz67:=decide_eq_false t1;have hz68:=decide_eq_false t2;have hz69:=asM;have hz70:=at6;have hz71:=at9;have hz72:=aI9;have hz73:=aA8;have hz74:=bv c0;have hz75:=bv c1;have hz76:=aQ c2;refine Z2 ?_)
     refine fe rfl rfl ?_
     rw [hw]
     rfl
theorem HY:bW 0 w3=[mkRat 1 3,mkRat 5 6,mkRat 1 1]:=by decide +kernel
theorem IE (v s:Int) (lo:Int) (b:Nat) (ts:List Nat) (n t:Nat) (q:Rat) (hq:Frq q) (ht:ts[n]?=some t) (htb:t < b) (hb:b<=1000) (hn:n < 1000) (hlen:n < ts.length) (hnew:Ret VP (.fn 442) [.d (.int .i64 t),.d (.int .i64 b)] [] (.d (.tuple [qD q,.int .i64 0])) []) :
 Ret VP (.fn 441) [.ptr 0 0 0 0,.d (cmD 2 v s .z (.tab lo w3) [] [] [] [])] [some (rdB b ts n)] (.d (.tuple [.int .i64 (pk w3 q:Nat),.int .i64 0])) [some (rdB b ts (n+1))] /\ ∃ p,w3[pk w3 q]?=some p/\Wn p:=by
 have hw:=ac n (by omega)
 have g:(ts.map oD)[n]?=some (oD t):=by rw [List.getElem?_map,ht];rfl
 have t0:((n:Int)==(((ts.map oD).length:Nat):Int))=false:=by rw [List.length_map];simp;omega
 have t1:¬ (t:Int) < 0:=by omega
 have t2:¬ (t:Int)>=(b:Int):=by omega
 unfold pk
 rw [HY]
 simp only [pkL]
 have m0:Ret VP (.fn 214) [.d (lit 1 3),.d (qD q)] [] (.d (.int .i64 (sgQ (mkRat 1 3 - q)))) []:=by
  have h:=dH (mkRat 1 3) q (by constructor<;>decide +kernel) hq.hf
  rwa [mH] at h
 have m1:Ret VP (.fn 214) [.d (lit 5 6),.d (qD q)] [] (.d (.int .i64 (sgQ (mkRat 5 6 - q)))) []:=by
  have h:=dH (mkRat 5 6) q (by constructor<;>decide +kernel) hq.hf
  rwa [wv] at h
 have m2:Ret VP (.fn 214) [.d (lit 1 1),.d (qD q)] [] (.d (.int .i64 (sgQ (mkRat 1 1 - q)))) []:=by
  have h:=dH (mkRat 1 1) q (by constructor<;>decide +kernel) hq.hf
  rwa [bE] at h
 by_cases c0:0 < sgQ (mkRat 1 3 - q)
 · rw [if_pos c0]
   refine ⟨?_,pl 1 3,rfl,jn⟩
   unfold rdB
   refine ret_of rfl rfl (r0 ?_)
   (have hz77:=decide_eq_false t1;have hz78:=decide_eq_false t2;have hz79:=asM;have hz80:=at6;have hz81:=at9;have hz82:=atP;have hz83:=aI8;have hz84:=axW;have hz85:=aI6;have hz86:=aQ c0;refine Z2 ?_)
   refine fe rfl rfl ?_
   rw [hw]
   rfl
 · rw [if_neg c0]
   by_cases c1:0 < sgQ (mkRat 5 6 - q)
   · rw [if_pos c1]
     refine ⟨?_,pl 1 2,rfl,ii⟩
     unfold rdB
     refine ret_of rfl rfl (r0 ?_)
     (have hz87:=decide_eq_false t1;have hz88:=decide_eq_false t2;have hz89:=asM;have hz90:=at6;have hz91:=at9;have hz92:=atP;have hz93:=aI8;have hz94:=axW;have hz95:=aI6;have hz96:=bv c0;have hz97:=aQ c1;refine Z2 ?_)
     refine fe rfl rfl ?_
     rw [hw]
     rfl
   · rw [if_neg c1]
     have c2:=hq.last
     rw [if_pos c2]
     refine ⟨?_,pl 1 6,rfl,Hn⟩
     unfold rdB
     refine ret_of rfl rfl (r0 ?_)
     (have hz98:=decide_eq_false t1;have hz99:=decide_eq_false t2;have hz100:=asM;have hz101:=at6;have hz102:=at9;have hz103:=atP;have hz104:=aI8;have hz105:=axW;have hz106:=aI6;have hz107:=bv c0;have hz108:=bv c1;have hz109:=aQ c2;refine Z2 ?_)
     refine fe rfl rfl ?_
     rw [hw]
     rfl
theorem HX:bW 0 w4=[mkRat 1 4,mkRat 3 4,mkRat 1 1]:=by decide +kernel
theorem ID (v s:Int) (lo:Int) (b:Nat) (ts:List Nat) (n t:Nat) (q:Rat) (hq:Frq q) (ht:ts[n]?=some t) (htb:t < b) (hb:b<=1000) (hn:n < 1000) (hlen:n < ts.length) (hnew:Ret VP (.fn 442) [.d (.int .i64 t),.d (.int .i64 b)] [] (.d (.tuple [qD q,.int .i64 0])) []) :
 Ret VP (.fn 441) [.ptr 0 0 0 0,.d (cmD 2 v s .z (.tab lo w4) [] [] [] [])] [some (rdB b ts n)] (.d (.tuple [.int .i64 (pk w4 q:Nat),.int .i64 0])) [some (rdB b ts (n+1))] /\ ∃ p,w4[pk w4 q]?=some p/\Wn p:=by
 have hw:=ac n (by omega)
 have g:(ts.map oD)[n]?=some (oD t):=by rw [List.getElem?_map,ht];rfl
 have t0:((n:Int)==(((ts.map oD).length:Nat):Int))=false:=by rw [List.length_map];simp;omega
 have t1:¬ (t:Int) < 0:=by omega
 have t2:¬ (t:Int)>=(b:Int):=by omega
 unfold pk
 rw [HX]
 simp only [pkL]
 have m0:Ret VP (.fn 214) [.d (lit 1 4),.d (qD q)] [] (.d (.int .i64 (sgQ (mkRat 1 4 - q)))) []:=by
  have h:=dH (mkRat 1 4) q (by constructor<;>decide +kernel) hq.hf
  rwa [mG] at h
 have m1:Ret VP (.fn 214) [.d (lit 3 4),.d (qD q)] [] (.d (.int .i64 (sgQ (mkRat 3 4 - q)))) []:=by
  have h:=dH (mkRat 3 4) q (by constructor<;>decide +kernel) hq.hf
  rwa [mF] at h
 have m2:Ret VP (.fn 214) [.d (lit 1 1),.d (qD q)] [] (.d (.int .i64 (sgQ (mkRat 1 1 - q)))) []:=by
  have h:=dH (mkRat 1 1) q (by constructor<;>decide +kernel) hq.hf
  rwa [bE] at h
 by_cases c0:0 < sgQ (mkRat 1 4 - q)
 · rw [if_pos c0]
   refine ⟨?_,pl 1 4,rfl,ig⟩
   unfold rdB
   refine ret_of rfl rfl (r0 ?_)
   (have hz110:=decide_eq_false t1;have hz111:=decide_eq_false t2;have hz112:=asM;have hz113:=asZ;have hz114:=atA;have hz115:=atP;have hz116:=aI5;have hz117:=axC;have hz118:=aQ c0;refine Z2 ?_)
   refine fe rfl rfl ?_
   rw [hw]
   rfl
 · rw [if_neg c0]
   by_cases c1:0 < sgQ (mkRat 3 4 - q)
   · rw [if_pos c1]
     refine ⟨?_,pl 1 2,rfl,ii⟩
     unfold rdB
     refine ret_of rfl rfl (r0 ?_)
     (have hz119:=decide_eq_false t1;have hz120:=decide_eq_false t2;have hz121:=asM;have hz122:=asZ;have hz123:=atA;have hz124:=atP;have hz125:=aI5;have hz126:=axC;have hz127:=bv c0;have hz128:=aQ c1;refine Z2 ?_)
     refine fe rfl rfl ?_
     rw [hw]
     rfl
   · rw [if_neg c1]
     have c2:=hq.last
     rw [if_pos c2]
     refine ⟨?_,pl 1 4,rfl,ig⟩
     unfold rdB
     refine ret_of rfl rfl (r0 ?_)
     (have hz129:=decide_eq_false t1;have hz130:=decide_eq_false t2;have hz131:=asM;have hz132:=asZ;have hz133:=atA;have hz134:=atP;have hz135:=aI5;have hz136:=axC;have hz137:=bv c0;have hz138:=bv c1;have hz139:=aQ c2;refine Z2 ?_)
     refine fe rfl rfl ?_
     rw [hw]
     rfl
theorem HW:bW 0 w5=[mkRat 1 4,mkRat 7 8,mkRat 1 1]:=by decide +kernel
theorem IC (v s:Int) (lo:Int) (b:Nat) (ts:List Nat) (n t:Nat) (q:Rat) (hq:Frq q) (ht:ts[n]?=some t) (htb:t < b) (hb:b<=1000) (hn:n < 1000) (hlen:n < ts.length) (hnew:Ret VP (.fn 442) [.d (.int .i64 t),.d (.int .i64 b)] [] (.d (.tuple [qD q,.int .i64 0])) []) :
 Ret VP (.fn 441) [.ptr 0 0 0 0,.d (cmD 2 v s .z (.tab lo w5) [] [] [] [])] [some (rdB b ts n)] (.d (.tuple [.int .i64 (pk w5 q:Nat),.int .i64 0])) [some (rdB b ts (n+1))] /\ ∃ p,w5[pk w5 q]?=some p/\Wn p:=by
 have hw:=ac n (by omega)
 have g:(ts.map oD)[n]?=some (oD t):=by rw [List.getElem?_map,ht];rfl
 have t0:((n:Int)==(((ts.map oD).length:Nat):Int))=false:=by rw [List.length_map];simp;omega
 have t1:¬ (t:Int) < 0:=by omega
 have t2:¬ (t:Int)>=(b:Int):=by omega
 unfold pk
 rw [HW]
 simp only [pkL]
 have m0:Ret VP (.fn 214) [.d (lit 1 4),.d (qD q)] [] (.d (.int .i64 (sgQ (mkRat 1 4 - q)))) []:=by
  have h:=dH (mkRat 1 4) q (by constructor<;>decide +kernel) hq.hf
  rwa [mG] at h
 have m1:Ret VP (.fn 214) [.d (lit 7 8),.d (qD q)] [] (.d (.int .i64 (sgQ (mkRat 7 8 - q)))) []:=by
  have h:=dH (mkRat 7 8) q (by constructor<;>decide +kernel) hq.hf
  rwa [wu] at h
 have m2:Ret VP (.fn 214) [.d (lit 1 1),.d (qD q)] [] (.d (.int .i64 (sgQ (mkRat 1 1 - q)))) []:=by
  have h:=dH (mkRat 1 1) q (by constructor<;>decide +kernel) hq.hf
  rwa [bE] at h
 by_cases c0:0 < sgQ (mkRat 1 4 - q)
 · rw [if_pos c0]
   refine ⟨?_,pl 1 4,rfl,ig⟩
   unfold rdB
   refine ret_of rfl rfl (r0 ?_)
   (have hz140:=decide_eq_false t1;have hz141:=decide_eq_false t2;have hz142:=asM;have hz143:=asZ;have hz144:=atA;have hz145:=axS;have hz146:=axU;have hz147:=axR;have hz148:=axT;have hz149:=aQ c0;refine Z2 ?_)
   refine fe rfl rfl ?_
   rw [hw]
   rfl
 · rw [if_neg c0]
   by_cases c1:0 < sgQ (mkRat 7 8 - q)
   · rw [if_pos c1]
     refine ⟨?_,pl 5 8,rfl,Hl⟩
     unfold rdB
     refine ret_of rfl rfl (r0 ?_)
     (have hz150:=decide_eq_false t1;have hz151:=decide_eq_false t2;have hz152:=asM;have hz153:=asZ;have hz154:=atA;have hz155:=axS;have hz156:=axU;have hz157:=axR;have hz158:=axT;have hz159:=bv c0;have hz160:=aQ c1;refine Z2 ?_)
     refine fe rfl rfl ?_
     rw [hw]
     rfl
   · rw [if_neg c1]
     have c2:=hq.last
     rw [if_pos c2]
     refine ⟨?_,pl 1 8,rfl,Hm⟩
     unfold rdB
     refine ret_of rfl rfl (r0 ?_)
     (have hz161:=decide_eq_false t1;have hz162:=decide_eq_false t2;have hz163:=asM;have hz164:=asZ;have hz165:=atA;have hz166:=axS;have hz167:=axU;have hz168:=axR;have hz169:=axT;have hz170:=bv c0;have hz171:=bv c1;have hz172:=aQ c2;refine Z2 ?_)
     refine fe rfl rfl ?_
     rw [hw]
     rfl
theorem HV:bW 0 w6=[mkRat 1 1,mkRat 1 1]:=by decide +kernel
theorem IB (v s:Int) (lo:Int) (b:Nat) (ts:List Nat) (n t:Nat) (q:Rat) (hq:Frq q) (ht:ts[n]?=some t) (htb:t < b) (hb:b<=1000) (hn:n < 1000) (hlen:n < ts.length) (hnew:Ret VP (.fn 442) [.d (.int .i64 t),.d (.int .i64 b)] [] (.d (.tuple [qD q,.int .i64 0])) []) :
 Ret VP (.fn 441) [.ptr 0 0 0 0,.d (cmD 2 v s .z (.tab lo w6) [] [] [] [])] [some (rdB b ts n)] (.d (.tuple [.int .i64 (pk w6 q:Nat),.int .i64 0])) [some (rdB b ts (n+1))] /\ ∃ p,w6[pk w6 q]?=some p/\Wn p:=by
 have hw:=ac n (by omega)
 have g:(ts.map oD)[n]?=some (oD t):=by rw [List.getElem?_map,ht];rfl
 have t0:((n:Int)==(((ts.map oD).length:Nat):Int))=false:=by rw [List.length_map];simp;omega
 have t1:¬ (t:Int) < 0:=by omega
 have t2:¬ (t:Int)>=(b:Int):=by omega
 unfold pk
 rw [HV]
 simp only [pkL]
 have m0:Ret VP (.fn 214) [.d (lit 1 1),.d (qD q)] [] (.d (.int .i64 (sgQ (mkRat 1 1 - q)))) []:=by
  have h:=dH (mkRat 1 1) q (by constructor<;>decide +kernel) hq.hf
  rwa [bE] at h
 have c0:=hq.last
 rw [if_pos c0]
 refine ⟨?_,pl 1 1,rfl,uI⟩
 unfold rdB
 refine ret_of rfl rfl (r0 ?_)
 (have hz173:=decide_eq_false t1;have hz174:=decide_eq_false t2;have hz175:=asM;have hz176:=aB0;have hz177:=axQ;have hz178:=aQ c0;refine Z2 ?_)
 refine fe rfl rfl ?_
 rw [hw]
 rfl
theorem HU:bW 0 w7=[mkRat 0 1,mkRat 1 1]:=by decide +kernel
theorem IA (v s:Int) (lo:Int) (b:Nat) (ts:List Nat) (n t:Nat) (q:Rat) (hq:Frq q) (ht:ts[n]?=some t) (htb:t < b) (hb:b<=1000) (hn:n < 1000) (hlen:n < ts.length) (hnew:Ret VP (.fn 442) [.d (.int .i64 t),.d (.int .i64 b)] [] (.d (.tuple [qD q,.int .i64 0])) []) :
 Ret VP (.fn 441) [.ptr 0 0 0 0,.d (cmD 2 v s .z (.tab lo w7) [] [] [] [])] [some (rdB b ts n)] (.d (.tuple [.int .i64 (pk w7 q:Nat),.int .i64 0])) [some (rdB b ts (n+1))] /\ ∃ p,w7[pk w7 q]?=some p/\Wn p:=by
 have hw:=ac n (by omega)
 have g:(ts.map oD)[n]?=some (oD t):=by rw [List.getElem?_map,ht];rfl
 have t0:((n:Int)==(((ts.map oD).length:Nat):Int))=false:=by rw [List.length_map];simp;omega
 have t1:¬ (t:Int) < 0:=by omega
 have t2:¬ (t:Int)>=(b:Int):=by omega
 unfold pk
 rw [HU]
 simp only [pkL]
 have m0:Ret VP (.fn 214) [.d uZ,.d (qD q)] [] (.d (.int .i64 (sgQ (mkRat 0 1 - q)))) []:=by
  have h:=dH (mkRat 0 1) q (by constructor<;>decide +kernel) hq.hf
  rwa [wB] at h
 have m1:Ret VP (.fn 214) [.d (lit 1 1),.d (qD q)] [] (.d (.int .i64 (sgQ (mkRat 1 1 - q)))) []:=by
  have h:=dH (mkRat 1 1) q (by constructor<;>decide +kernel) hq.hf
  rwa [bE] at h
 have c0:=hq.first
 rw [if_neg c0]
 have c1:=hq.last
 rw [if_pos c1]
 refine ⟨?_,pl 1 1,rfl,uI⟩
 unfold rdB
 refine ret_of rfl rfl (r0 ?_)
 (have hz179:=decide_eq_false t1;have hz180:=decide_eq_false t2;have hz181:=asM;have hz182:=axZ;have hz183:=aIN;have hz184:=aB0;have hz185:=axQ;have hz186:=bv c0;have hz187:=aQ c1;refine Z2 ?_)
 refine fe rfl rfl ?_
 rw [hw]
 rfl
theorem HT:bW 0 w8=[mkRat 1 2,mkRat 1 1]:=by decide +kernel
theorem Iz (v s:Int) (lo:Int) (b:Nat) (ts:List Nat) (n t:Nat) (q:Rat) (hq:Frq q) (ht:ts[n]?=some t) (htb:t < b) (hb:b<=1000) (hn:n < 1000) (hlen:n < ts.length) (hnew:Ret VP (.fn 442) [.d (.int .i64 t),.d (.int .i64 b)] [] (.d (.tuple [qD q,.int .i64 0])) []) :
 Ret VP (.fn 441) [.ptr 0 0 0 0,.d (cmD 2 v s .z (.tab lo w8) [] [] [] [])] [some (rdB b ts n)] (.d (.tuple [.int .i64 (pk w8 q:Nat),.int .i64 0])) [some (rdB b ts (n+1))] /\ ∃ p,w8[pk w8 q]?=some p/\Wn p:=by
 have hw:=ac n (by omega)
 have g:(ts.map oD)[n]?=some (oD t):=by rw [List.getElem?_map,ht];rfl
 have t0:((n:Int)==(((ts.map oD).length:Nat):Int))=false:=by rw [List.length_map];simp;omega
 have t1:¬ (t:Int) < 0:=by omega
 have t2:¬ (t:Int)>=(b:Int):=by omega
 unfold pk
 rw [HT]
 simp only [pkL]
 have m0:Ret VP (.fn 214) [.d (lit 1 2),.d (qD q)] [] (.d (.int .i64 (sgQ (mkRat 1 2 - q)))) []:=by
  have h:=dH (mkRat 1 2) q (by constructor<;>decide +kernel) hq.hf
  rwa [kB] at h
 have m1:Ret VP (.fn 214) [.d (lit 1 1),.d (qD q)] [] (.d (.int .i64 (sgQ (mkRat 1 1 - q)))) []:=by
  have h:=dH (mkRat 1 1) q (by constructor<;>decide +kernel) hq.hf
  rwa [bE] at h
 by_cases c0:0 < sgQ (mkRat 1 2 - q)
 · rw [if_pos c0]
   refine ⟨?_,pl 1 2,rfl,ii⟩
   unfold rdB
   refine ret_of rfl rfl (r0 ?_)
   (have hz188:=decide_eq_false t1;have hz189:=decide_eq_false t2;have hz190:=asM;have hz191:=atP;have hz192:=axA;have hz193:=aHE;have hz194:=aQ c0;refine Z2 ?_)
   refine fe rfl rfl ?_
   rw [hw]
   rfl
 · rw [if_neg c0]
   have c1:=hq.last
   rw [if_pos c1]
   refine ⟨?_,pl 1 2,rfl,ii⟩
   unfold rdB
   refine ret_of rfl rfl (r0 ?_)
   (have hz195:=decide_eq_false t1;have hz196:=decide_eq_false t2;have hz197:=asM;have hz198:=atP;have hz199:=axA;have hz200:=aHE;have hz201:=bv c0;have hz202:=aQ c1;refine Z2 ?_)
   refine fe rfl rfl ?_
   rw [hw]
   rfl
theorem HS:bW 0 w9=[mkRat 2 3,mkRat 1 1]:=by decide +kernel
theorem Ix (v s:Int) (lo:Int) (b:Nat) (ts:List Nat) (n t:Nat) (q:Rat) (hq:Frq q) (ht:ts[n]?=some t) (htb:t < b) (hb:b<=1000) (hn:n < 1000) (hlen:n < ts.length) (hnew:Ret VP (.fn 442) [.d (.int .i64 t),.d (.int .i64 b)] [] (.d (.tuple [qD q,.int .i64 0])) []) :
 Ret VP (.fn 441) [.ptr 0 0 0 0,.d (cmD 2 v s .z (.tab lo w9) [] [] [] [])] [some (rdB b ts n)] (.d (.tuple [.int .i64 (pk w9 q:Nat),.int .i64 0])) [some (rdB b ts (n+1))] /\ ∃ p,w9[pk w9 q]?=some p/\Wn p:=by
 have hw:=ac n (by omega)
 have g:(ts.map oD)[n]?=some (oD t):=by rw [List.getElem?_map,ht];rfl
 have t0:((n:Int)==(((ts.map oD).length:Nat):Int))=false:=by rw [List.length_map];simp;omega
 have t1:¬ (t:Int) < 0:=by omega
 have t2:¬ (t:Int)>=(b:Int):=by omega
 unfold pk
 rw [HS]
 simp only [pkL]
 have m0:Ret VP (.fn 214) [.d (lit 2 3),.d (qD q)] [] (.d (.int .i64 (sgQ (mkRat 2 3 - q)))) []:=by
  have h:=dH (mkRat 2 3) q (by constructor<;>decide +kernel) hq.hf
  rwa [q7] at h
 have m1:Ret VP (.fn 214) [.d (lit 1 1),.d (qD q)] [] (.d (.int .i64 (sgQ (mkRat 1 1 - q)))) []:=by
  have h:=dH (mkRat 1 1) q (by constructor<;>decide +kernel) hq.hf
  rwa [bE] at h
 by_cases c0:0 < sgQ (mkRat 2 3 - q)
 · rw [if_pos c0]
   refine ⟨?_,pl 2 3,rfl,uG⟩
   unfold rdB
   refine ret_of rfl rfl (r0 ?_)
   (have hz203:=decide_eq_false t1;have hz204:=decide_eq_false t2;have hz205:=asM;have hz206:=avZ;have hz207:=axV;have hz208:=at6;have hz209:=aA8;have hz210:=aQ c0;refine Z2 ?_)
   refine fe rfl rfl ?_
   rw [hw]
   rfl
 · rw [if_neg c0]
   have c1:=hq.last
   rw [if_pos c1]
   refine ⟨?_,pl 1 3,rfl,jn⟩
   unfold rdB
   refine ret_of rfl rfl (r0 ?_)
   (have hz211:=decide_eq_false t1;have hz212:=decide_eq_false t2;have hz213:=asM;have hz214:=avZ;have hz215:=axV;have hz216:=at6;have hz217:=aA8;have hz218:=bv c0;have hz219:=aQ c1;refine Z2 ?_)
   refine fe rfl rfl ?_
   rw [hw]
   rfl
theorem vJ:bW 0 w10=[mkRat 1 3,mkRat 1 1]:=by decide +kernel
theorem wk (v s:Int) (lo:Int) (b:Nat) (ts:List Nat) (n t:Nat) (q:Rat) (hq:Frq q) (ht:ts[n]?=some t) (htb:t < b) (hb:b<=1000) (hn:n < 1000) (hlen:n < ts.length) (hnew:Ret VP (.fn 442) [.d (.int .i64 t),.d (.int .i64 b)] [] (.d (.tuple [qD q,.int .i64 0])) []) :
 Ret VP (.fn 441) [.ptr 0 0 0 0,.d (cmD 2 v s .z (.tab lo w10) [] [] [] [])] [some (rdB b ts n)] (.d (.tuple [.int .i64 (pk w10 q:Nat),.int .i64 0])) [some (rdB b ts (n+1))] /\ ∃ p,w10[pk w10 q]?=some p/\Wn p:=by
 have hw:=ac n (by omega)
 have g:(ts.map oD)[n]?=some (oD t):=by rw [List.getElem?_map,ht];rfl
 have t0:((n:Int)==(((ts.map oD).length:Nat):Int))=false:=by rw [List.length_map];simp;omega
 have t1:¬ (t:Int) < 0:=by omega
 have t2:¬ (t:Int)>=(b:Int):=by omega
 unfold pk
 rw [vJ]
 simp only [pkL]
 have m0:Ret VP (.fn 214) [.d (lit 1 3),.d (qD q)] [] (.d (.int .i64 (sgQ (mkRat 1 3 - q)))) []:=by
  have h:=dH (mkRat 1 3) q (by constructor<;>decide +kernel) hq.hf
  rwa [mH] at h
 have m1:Ret VP (.fn 214) [.d (lit 1 1),.d (qD q)] [] (.d (.int .i64 (sgQ (mkRat 1 1 - q)))) []:=by
  have h:=dH (mkRat 1 1) q (by constructor<;>decide +kernel) hq.hf
  rwa [bE] at h
 by_cases c0:0 < sgQ (mkRat 1 3 - q)
 · rw [if_pos c0]
   refine ⟨?_,pl 1 3,rfl,jn⟩
   unfold rdB
   refine ret_of rfl rfl (r0 ?_)
   (have hz220:=decide_eq_false t1;have hz221:=decide_eq_false t2;have hz222:=asM;have hz223:=at6;have hz224:=at9;have hz225:=avZ;have hz226:=aAZ;have hz227:=aQ c0;refine Z2 ?_)
   refine fe rfl rfl ?_
   rw [hw]
   rfl
 · rw [if_neg c0]
   have c1:=hq.last
   rw [if_pos c1]
   refine ⟨?_,pl 2 3,rfl,uG⟩
   unfold rdB
   refine ret_of rfl rfl (r0 ?_)
   (have hz228:=decide_eq_false t1;have hz229:=decide_eq_false t2;have hz230:=asM;have hz231:=at6;have hz232:=at9;have hz233:=avZ;have hz234:=aAZ;have hz235:=bv c0;have hz236:=aQ c1;refine Z2 ?_)
   refine fe rfl rfl ?_
   rw [hw]
   rfl
theorem vI:bW 0 w11=[mkRat 3 4,mkRat 1 1]:=by decide +kernel
theorem wj (v s:Int) (lo:Int) (b:Nat) (ts:List Nat) (n t:Nat) (q:Rat) (hq:Frq q) (ht:ts[n]?=some t) (htb:t < b) (hb:b<=1000) (hn:n < 1000) (hlen:n < ts.length) (hnew:Ret VP (.fn 442) [.d (.int .i64 t),.d (.int .i64 b)] [] (.d (.tuple [qD q,.int .i64 0])) []) :
 Ret VP (.fn 441) [.ptr 0 0 0 0,.d (cmD 2 v s .z (.tab lo w11) [] [] [] [])] [some (rdB b ts n)] (.d (.tuple [.int .i64 (pk w11 q:Nat),.int .i64 0])) [some (rdB b ts (n+1))] /\ ∃ p,w11[pk w11 q]?=some p/\Wn p:=by
 have hw:=ac n (by omega)
 have g:(ts.map oD)[n]?=some (oD t):=by rw [List.getElem?_map,ht];rfl
 have t0:((n:Int)==(((ts.map oD).length:Nat):Int))=false:=by rw [List.length_map];simp;omega
 have t1:¬ (t:Int) < 0:=by omega
 have t2:¬ (t:Int)>=(b:Int):=by omega
 unfold pk
 rw [vI]
 simp only [pkL]
 have m0:Ret VP (.fn 214) [.d (lit 3 4),.d (qD q)] [] (.d (.int .i64 (sgQ (mkRat 3 4 - q)))) []:=by
  have h:=dH (mkRat 3 4) q (by constructor<;>decide +kernel) hq.hf
  rwa [mF] at h
 have m1:Ret VP (.fn 214) [.d (lit 1 1),.d (qD q)] [] (.d (.int .i64 (sgQ (mkRat 1 1 - q)))) []:=by
  have h:=dH (mkRat 1 1) q (by constructor<;>decide +kernel) hq.hf
  rwa [bE] at h
 by_cases c0:0 < sgQ (mkRat 3 4 - q)
 · rw [if_pos c0]
   refine ⟨?_,pl 3 4,rfl,uE⟩
   unfold rdB
   refine ret_of rfl rfl (r0 ?_)
   (have hz237:=decide_eq_false t1;have hz238:=decide_eq_false t2;have hz239:=asM;have hz240:=avV;have hz241:=axP;have hz242:=asZ;have hz243:=axC;have hz244:=aQ c0;refine Z2 ?_)
   refine fe rfl rfl ?_
   rw [hw]
   rfl
 · rw [if_neg c0]
   have c1:=hq.last
   rw [if_pos c1]
   refine ⟨?_,pl 1 4,rfl,ig⟩
   unfold rdB
   refine ret_of rfl rfl (r0 ?_)
   (have hz245:=decide_eq_false t1;have hz246:=decide_eq_false t2;have hz247:=asM;have hz248:=avV;have hz249:=axP;have hz250:=asZ;have hz251:=axC;have hz252:=bv c0;have hz253:=aQ c1;refine Z2 ?_)
   refine fe rfl rfl ?_
   rw [hw]
   rfl
theorem vH:bW 0 w12=[mkRat 1 4,mkRat 1 1]:=by decide +kernel
theorem wi (v s:Int) (lo:Int) (b:Nat) (ts:List Nat) (n t:Nat) (q:Rat) (hq:Frq q) (ht:ts[n]?=some t) (htb:t < b) (hb:b<=1000) (hn:n < 1000) (hlen:n < ts.length) (hnew:Ret VP (.fn 442) [.d (.int .i64 t),.d (.int .i64 b)] [] (.d (.tuple [qD q,.int .i64 0])) []) :
 Ret VP (.fn 441) [.ptr 0 0 0 0,.d (cmD 2 v s .z (.tab lo w12) [] [] [] [])] [some (rdB b ts n)] (.d (.tuple [.int .i64 (pk w12 q:Nat),.int .i64 0])) [some (rdB b ts (n+1))] /\ ∃ p,w12[pk w12 q]?=some p/\Wn p:=by
 have hw:=ac n (by omega)
 have g:(ts.map oD)[n]?=some (oD t):=by rw [List.getElem?_map,ht];rfl
 have t0:((n:Int)==(((ts.map oD).length:Nat):Int))=false:=by rw [List.length_map];simp;omega
 have t1:¬ (t:Int) < 0:=by omega
 have t2:¬ (t:Int)>=(b:Int):=by omega
 unfold pk
 rw [vH]
 simp only [pkL]
 have m0:Ret VP (.fn 214) [.d (lit 1 4),.d (qD q)] [] (.d (.int .i64 (sgQ (mkRat 1 4 - q)))) []:=by
  have h:=dH (mkRat 1 4) q (by constructor<;>decide +kernel) hq.hf
  rwa [mG] at h
 have m1:Ret VP (.fn 214) [.d (lit 1 1),.d (qD q)] [] (.d (.int .i64 (sgQ (mkRat 1 1 - q)))) []:=by
  have h:=dH (mkRat 1 1) q (by constructor<;>decide +kernel) hq.hf
  rwa [bE] at h
 by_cases c0:0 < sgQ (mkRat 1 4 - q)
 · rw [if_pos c0]
   refine ⟨?_,pl 1 4,rfl,ig⟩
   unfold rdB
   refine ret_of rfl rfl (r0 ?_)
   (have hz254:=decide_eq_false t1;have hz255:=decide_eq_false t2;have hz256:=asM;have hz257:=asZ;have hz258:=atA;have hz259:=avV;have hz260:=aAV;have hz261:=aQ c0;refine Z2 ?_)
   refine fe rfl rfl ?_
   rw [hw]
   rfl
 · rw [if_neg c0]
   have c1:=hq.last
   rw [if_pos c1]
   refine ⟨?_,pl 3 4,rfl,uE⟩
   unfold rdB
   refine ret_of rfl rfl (r0 ?_)
   (have hz262:=decide_eq_false t1;have hz263:=decide_eq_false t2;have hz264:=asM;have hz265:=asZ;have hz266:=atA;have hz267:=avV;have hz268:=aAV;have hz269:=bv c0;have hz270:=aQ c1;refine Z2 ?_)
   refine fe rfl rfl ?_
   rw [hw]
   rfl
theorem vG:bW 0 w13=[mkRat 4 5,mkRat 1 1]:=by decide +kernel
theorem wh (v s:Int) (lo:Int) (b:Nat) (ts:List Nat) (n t:Nat) (q:Rat) (hq:Frq q) (ht:ts[n]?=some t) (htb:t < b) (hb:b<=1000) (hn:n < 1000) (hlen:n < ts.length) (hnew:Ret VP (.fn 442) [.d (.int .i64 t),.d (.int .i64 b)] [] (.d (.tuple [qD q,.int .i64 0])) []) :
 Ret VP (.fn 441) [.ptr 0 0 0 0,.d (cmD 2 v s .z (.tab lo w13) [] [] [] [])] [some (rdB b ts n)] (.d (.tuple [.int .i64 (pk w13 q:Nat),.int .i64 0])) [some (rdB b ts (n+1))] /\ ∃ p,w13[pk w13 q]?=some p/\Wn p:=by
 have hw:=ac n (by omega)
 have g:(ts.map oD)[n]?=some (oD t):=by rw [List.getElem?_map,ht];rfl
 have t0:((n:Int)==(((ts.map oD).length:Nat):Int))=false:=by rw [List.length_map];simp;omega
 have t1:¬ (t:Int) < 0:=by omega
 have t2:¬ (t:Int)>=(b:Int):=by omega
 unfold pk
 rw [vG]
 simp only [pkL]
 have m0:Ret VP (.fn 214) [.d (lit 4 5),.d (qD q)] [] (.d (.int .i64 (sgQ (mkRat 4 5 - q)))) []:=by
  have h:=dH (mkRat 4 5) q (by constructor<;>decide +kernel) hq.hf
  rwa [ww] at h
 have m1:Ret VP (.fn 214) [.d (lit 1 1),.d (qD q)] [] (.d (.int .i64 (sgQ (mkRat 1 1 - q)))) []:=by
  have h:=dH (mkRat 1 1) q (by constructor<;>decide +kernel) hq.hf
  rwa [bE] at h
 by_cases c0:0 < sgQ (mkRat 4 5 - q)
 · rw [if_pos c0]
   refine ⟨?_,pl 4 5,rfl,uC⟩
   unfold rdB
   refine ret_of rfl rfl (r0 ?_)
   (have hz271:=decide_eq_false t1;have hz272:=decide_eq_false t2;have hz273:=asM;have hz274:=avR;have hz275:=axO;have hz276:=avQ;have hz277:=aAM;have hz278:=aQ c0;refine Z2 ?_)
   refine fe rfl rfl ?_
   rw [hw]
   rfl
 · rw [if_neg c0]
   have c1:=hq.last
   rw [if_pos c1]
   refine ⟨?_,pl 1 5,rfl,uH⟩
   unfold rdB
   refine ret_of rfl rfl (r0 ?_)
   (have hz279:=decide_eq_false t1;have hz280:=decide_eq_false t2;have hz281:=asM;have hz282:=avR;have hz283:=axO;have hz284:=avQ;have hz285:=aAM;have hz286:=bv c0;have hz287:=aQ c1;refine Z2 ?_)
   refine fe rfl rfl ?_
   rw [hw]
   rfl
theorem vE:bW 0 w14=[mkRat 3 5,mkRat 1 1]:=by decide +kernel
theorem wg (v s:Int) (lo:Int) (b:Nat) (ts:List Nat) (n t:Nat) (q:Rat) (hq:Frq q) (ht:ts[n]?=some t) (htb:t < b) (hb:b<=1000) (hn:n < 1000) (hlen:n < ts.length) (hnew:Ret VP (.fn 442) [.d (.int .i64 t),.d (.int .i64 b)] [] (.d (.tuple [qD q,.int .i64 0])) []) :
 Ret VP (.fn 441) [.ptr 0 0 0 0,.d (cmD 2 v s .z (.tab lo w14) [] [] [] [])] [some (rdB b ts n)] (.d (.tuple [.int .i64 (pk w14 q:Nat),.int .i64 0])) [some (rdB b ts (n+1))] /\ ∃ p,w14[pk w14 q]?=some p/\Wn p:=by
 have hw:=ac n (by omega)
 have g:(ts.map oD)[n]?=some (oD t):=by rw [List.getElem?_map,ht];rfl
 have t0:((n:Int)==(((ts.map oD).length:Nat):Int))=false:=by rw [List.length_map];simp;omega
 have t1:¬ (t:Int) < 0:=by omega
 have t2:¬ (t:Int)>=(b:Int):=by omega
 unfold pk
 rw [vE]
 simp only [pkL]
 have m0:Ret VP (.fn 214) [.d (lit 3 5),.d (qD q)] [] (.d (.int .i64 (sgQ (mkRat 3 5 - q)))) []:=by
  have h:=dH (mkRat 3 5) q (by constructor<;>decide +kernel) hq.hf
  rwa [wx] at h
 have m1:Ret VP (.fn 214) [.d (lit 1 1),.d (qD q)] [] (.d (.int .i64 (sgQ (mkRat 1 1 - q)))) []:=by
  have h:=dH (mkRat 1 1) q (by constructor<;>decide +kernel) hq.hf
  rwa [bE] at h
 by_cases c0:0 < sgQ (mkRat 3 5 - q)
 · rw [if_pos c0]
   refine ⟨?_,pl 3 5,rfl,uD⟩
   unfold rdB
   refine ret_of rfl rfl (r0 ?_)
   (have hz288:=decide_eq_false t1;have hz289:=decide_eq_false t2;have hz290:=asM;have hz291:=avP;have hz292:=axM;have hz293:=avO;have hz294:=aAD;have hz295:=aQ c0;refine Z2 ?_)
   refine fe rfl rfl ?_
   rw [hw]
   rfl
 · rw [if_neg c0]
   have c1:=hq.last
   rw [if_pos c1]
   refine ⟨?_,pl 2 5,rfl,uF⟩
   unfold rdB
   refine ret_of rfl rfl (r0 ?_)
   (have hz296:=decide_eq_false t1;have hz297:=decide_eq_false t2;have hz298:=asM;have hz299:=avP;have hz300:=axM;have hz301:=avO;have hz302:=aAD;have hz303:=bv c0;have hz304:=aQ c1;refine Z2 ?_)
   refine fe rfl rfl ?_
   rw [hw]
   rfl
theorem vD:bW 0 w15=[mkRat 2 5,mkRat 1 1]:=by decide +kernel
theorem wf (v s:Int) (lo:Int) (b:Nat) (ts:List Nat) (n t:Nat) (q:Rat) (hq:Frq q) (ht:ts[n]?=some t) (htb:t < b) (hb:b<=1000) (hn:n < 1000) (hlen:n < ts.length) (hnew:Ret VP (.fn 442) [.d (.int .i64 t),.d (.int .i64 b)] [] (.d (.tuple [qD q,.int .i64 0])) []) :
 Ret VP (.fn 441) [.ptr 0 0 0 0,.d (cmD 2 v s .z (.tab lo w15) [] [] [] [])] [some (rdB b ts n)] (.d (.tuple [.int .i64 (pk w15 q:Nat),.int .i64 0])) [some (rdB b ts (n+1))] /\ ∃ p,w15[pk w15 q]?=some p/\Wn p:=by
 have hw:=ac n (by omega)
 have g:(ts.map oD)[n]?=some (oD t):=by rw [List.getElem?_map,ht];rfl
 have t0:((n:Int)==(((ts.map oD).length:Nat):Int))=false:=by rw [List.length_map];simp;omega
 have t1:¬ (t:Int) < 0:=by omega
 have t2:¬ (t:Int)>=(b:Int):=by omega
 unfold pk
 rw [vD]
 simp only [pkL]
 have m0:Ret VP (.fn 214) [.d (lit 2 5),.d (qD q)] [] (.d (.int .i64 (sgQ (mkRat 2 5 - q)))) []:=by
  have h:=dH (mkRat 2 5) q (by constructor<;>decide +kernel) hq.hf
  rwa [wy] at h
 have m1:Ret VP (.fn 214) [.d (lit 1 1),.d (qD q)] [] (.d (.int .i64 (sgQ (mkRat 1 1 - q)))) []:=by
  have h:=dH (mkRat 1 1) q (by constructor<;>decide +kernel) hq.hf
  rwa [bE] at h
 by_cases c0:0 < sgQ (mkRat 2 5 - q)
 · rw [if_pos c0]
   refine ⟨?_,pl 2 5,rfl,uF⟩
   unfold rdB
   refine ret_of rfl rfl (r0 ?_)
   (have hz305:=decide_eq_false t1;have hz306:=decide_eq_false t2;have hz307:=asM;have hz308:=avO;have hz309:=axL;have hz310:=avP;have hz311:=aAC;have hz312:=aQ c0;refine Z2 ?_)
   refine fe rfl rfl ?_
   rw [hw]
   rfl
 · rw [if_neg c0]
   have c1:=hq.last
   rw [if_pos c1]
   refine ⟨?_,pl 3 5,rfl,uD⟩
   unfold rdB
   refine ret_of rfl rfl (r0 ?_)
   (have hz313:=decide_eq_false t1;have hz314:=decide_eq_false t2;have hz315:=asM;have hz316:=avO;have hz317:=axL;have hz318:=avP;have hz319:=aAC;have hz320:=bv c0;have hz321:=aQ c1;refine Z2 ?_)
   refine fe rfl rfl ?_
   rw [hw]
   rfl
theorem vC:bW 0 w16=[mkRat 1 5,mkRat 1 1]:=by decide +kernel
theorem we (v s:Int) (lo:Int) (b:Nat) (ts:List Nat) (n t:Nat) (q:Rat) (hq:Frq q) (ht:ts[n]?=some t) (htb:t < b) (hb:b<=1000) (hn:n < 1000) (hlen:n < ts.length) (hnew:Ret VP (.fn 442) [.d (.int .i64 t),.d (.int .i64 b)] [] (.d (.tuple [qD q,.int .i64 0])) []) :
 Ret VP (.fn 441) [.ptr 0 0 0 0,.d (cmD 2 v s .z (.tab lo w16) [] [] [] [])] [some (rdB b ts n)] (.d (.tuple [.int .i64 (pk w16 q:Nat),.int .i64 0])) [some (rdB b ts (n+1))] /\ ∃ p,w16[pk w16 q]?=some p/\Wn p:=by
 have hw:=ac n (by omega)
 have g:(ts.map oD)[n]?=some (oD t):=by rw [List.getElem?_map,ht];rfl
 have t0:((n:Int)==(((ts.map oD).length:Nat):Int))=false:=by rw [List.length_map];simp;omega
 have t1:¬ (t:Int) < 0:=by omega
 have t2:¬ (t:Int)>=(b:Int):=by omega
 unfold pk
 rw [vC]
 simp only [pkL]
 have m0:Ret VP (.fn 214) [.d (lit 1 5),.d (qD q)] [] (.d (.int .i64 (sgQ (mkRat 1 5 - q)))) []:=by
  have h:=dH (mkRat 1 5) q (by constructor<;>decide +kernel) hq.hf
  rwa [wz] at h
 have m1:Ret VP (.fn 214) [.d (lit 1 1),.d (qD q)] [] (.d (.int .i64 (sgQ (mkRat 1 1 - q)))) []:=by
  have h:=dH (mkRat 1 1) q (by constructor<;>decide +kernel) hq.hf
  rwa [bE] at h
 by_cases c0:0 < sgQ (mkRat 1 5 - q)
 · rw [if_pos c0]
   refine ⟨?_,pl 1 5,rfl,uH⟩
   unfold rdB
   refine ret_of rfl rfl (r0 ?_)
   (have hz322:=decide_eq_false t1;have hz323:=decide_eq_false t2;have hz324:=asM;have hz325:=avQ;have hz326:=axN;have hz327:=avR;have hz328:=aAB;have hz329:=aQ c0;refine Z2 ?_)
   refine fe rfl rfl ?_
   rw [hw]
   rfl
 · rw [if_neg c0]
   have c1:=hq.last
   rw [if_pos c1]
   refine ⟨?_,pl 4 5,rfl,uC⟩
   unfold rdB
   refine ret_of rfl rfl (r0 ?_)
   (have hz330:=decide_eq_false t1;have hz331:=decide_eq_false t2;have hz332:=asM;have hz333:=avQ;have hz334:=axN;have hz335:=avR;have hz336:=aAB;have hz337:=bv c0;have hz338:=aQ c1;refine Z2 ?_)
   refine fe rfl rfl ?_
   rw [hw]
   rfl
theorem tl (v s:Int) (lo:Int) (b:Nat) (ts:List Nat) (n t:Nat) (q:Rat) (hq:Frq q) (ht:ts[n]?=some t) (htb:t < b) (hb:b<=1000) (hn:n < 1000) (hlen:n < ts.length) (hnew:Ret VP (.fn 442) [.d (.int .i64 t),.d (.int .i64 b)] [] (.d (.tuple [qD q,.int .i64 0])) []) : ∀ w∈W0,
 Ret VP (.fn 441) [.ptr 0 0 0 0,.d (cmD 2 v s .z (.tab lo w) [] [] [] [])] [some (rdB b ts n)] (.d (.tuple [.int .i64 (pk w q:Nat),.int .i64 0])) [some (rdB b ts (n+1))] /\ ∃ p,w[pk w q]?=some p/\Wn p :=
 md ⟨IH v s lo b ts n t q hq ht htb hb hn hlen hnew,IG v s lo b ts n t q hq ht htb hb hn hlen hnew,IF v s lo b ts n t q hq ht htb hb hn hlen hnew,IE v s lo b ts n t q hq ht htb hb hn hlen hnew,ID v s lo b ts n t q hq ht htb hb hn hlen hnew,IC v s lo b ts n t q hq ht htb hb hn hlen hnew,IB v s lo b ts n t q hq ht htb hb hn hlen hnew,IA v s lo b ts n t q hq ht htb hb hn hlen hnew,Iz v s lo b ts n t q hq ht htb hb hn hlen hnew,Ix v s lo b ts n t q hq ht htb hb hn hlen hnew,wk v s lo b ts n t q hq ht htb hb hn hlen hnew,wj v s lo b ts n t q hq ht htb hb hn hlen hnew,wi v s lo b ts n t q hq ht htb hb hn hlen hnew,wh v s lo b ts n t q hq ht htb hb hn hlen hnew,wg v s lo b ts n t q hq ht htb hb hn hlen hnew,wf v s lo b ts n t q hq ht htb hb hn hlen hnew,we v s lo b ts n t q hq ht htb hb hn hlen hnew⟩
theorem Iv (t b:Nat) (hb:0 < b):(mkRat (t:Int) b).num=((t/Nat.gcd b t:Nat):Int)/\(mkRat (t:Int) b).den=b/Nat.gcd b t:=by
 have hb':b≠0:=by omega
 constructor
 · rw [Rat.num_mkRat,if_neg hb',Int.natAbs_natCast];rfl
 · rw [Rat.den_mkRat,if_neg hb',Int.natAbs_natCast,Nat.gcd_comm]
theorem IU (t b:Nat) (htb:t < b) (hb:b<=1000):Frq (mkRat (t:Int) b):=by
 have ⟨e1,e2⟩:=Iv t b (by omega)
 have hg:0 < Nat.gcd b t:=Nat.gcd_pos_of_pos_left _ (by omega)
 have l1:t/Nat.gcd b t<=t:=Nat.div_le_self _ _
 have l2:b/Nat.gcd b t<=b:=Nat.div_le_self _ _
 refine ⟨?_,?_,?_,?_⟩
 · rw [<- Rat.num_nonneg,e1];exact Int.natCast_nonneg _
 · rw [Rat.lt_iff,e1,e2]
   have h1:t/Nat.gcd b t < b/Nat.gcd b t:=by
    have h2:=Nat.div_mul_cancel (Nat.gcd_dvd_left b t)
    have h3:=Nat.div_mul_cancel (Nat.gcd_dvd_right b t)
    refine Nat.lt_of_mul_lt_mul_right (a:=Nat.gcd b t) ?_
    rw [h2,h3];exact htb
   have e3:(1:Rat).num=1:=rfl
   have e4:(1:Rat).den=1:=rfl
   rw [e3,e4];omega
 · rw [e1,Int.natAbs_natCast];omega
 · rw [e2];omega
theorem wm (t b:Nat) (htb:t < b) (hb:b<=1000):Ret VP (.fn 442) [.d (.int .i64 t),.d (.int .i64 b)] [] (.d (.tuple [qD (mkRat (t:Int) b),.int .i64 0])) []:=by
 have h1:=dN t (by omega)
 have h2:=dN b (by omega)
 have h3:=gc false t b (by omega) (by omega) (by omega)
 have e:sg false t=(t:Int):=rfl
 rw [e] at h3
 have h4:=aa8 (mkRat (t:Int) b)
 have t0:((b:Int)==0)=false:=by simp;omega
 refine ret_of rfl rfl (r0 ?_)
 refine Z2 ?_
 rfl
theorem hH (v s:Int) (lo:Int) (b:Nat) (ts:List Nat) (n:Nat) (hb:b<=1000) (hall : ∀ t∈ts,t < b) (hn:n < 1000) (hlen:n < ts.length) (w:List D) (hw:w∈W0) :
 Ret VP (.fn 441) [.ptr 0 0 0 0,.d (cmD 2 v s .z (.tab lo w) [] [] [] [])] [some (rdB b ts n)] (.d (.tuple [.int .i64 (pk w (mkRat (ts.getD n 0:Nat) b):Nat),.int .i64 0])) [some (rdB b ts (n+1))] /\ ∃ p,w[pk w (mkRat (ts.getD n 0:Nat) b)]?=some p/\Wn p:=by
 have hg:ts[n]?=some (ts.getD n 0):=by rw [List.getD_eq_getElem?_getD,List.getElem?_eq_getElem hlen];rfl
 have hm:ts.getD n 0 < b:=hall _ (List.mem_of_getElem? hg)
 exact tl v s lo b ts n (ts.getD n 0) _ (IU _ b hm hb) hg hm hb hn hlen (wm _ b hm hb) w hw
end Go.Proofs.YtemffeblbmimfaaGreat
namespace Go.Proofs.YtemffeblbmimfaaGreat
open Go.IntWalk
attribute [local irreducible] au
set_option maxHeartbeats 4000000
set_option maxRecDepth 100000
theorem bM (st:List Int):(st.map iD).all bJ=true:=by
 induction st with
 | nil=>rfl
 | cons c l ih=>rw [List.map_cons,List.all_cons,ih];rfl
theorem aK {s:aa} {id ver k esz:Nat} {ro:Bool} {es:List D} {x:D} (hb:getB s id=some (.rows ver ro (esz+1) (ao es))) (hk:k=es.length) (ho:es.all bJ=true):ai s [] [.d x,.ms id ver 0 k]=some ([.d x,.d (.slice es)],[id]):=by
 have h1:=mg hb hk ho
 have h2:toD s bB (.d x)=some (x,[]):=rfl
 simp only [ai,h1,h2,List.drop_nil,List.append_nil,List.nil_append]
section
variable {p:bh} {b0:Nat} {d:Option Nat} {os:List VOper} {e:Env} {s s1:aa} {Q:Env->aa->Prop}
theorem osD {a y:Opd} {id ver i i' v:Nat} {es es':List D} {x:D} (ha:ev e a = .ptr id ver i' 0) (hii:i'=i) (hy:ev e y = .d x) (hb:getB s id=some (.rows v false 1 (ao es))) (hv:v=ver) (hi:i < es.length) (h1 : ∀ z∈es,z.cells.length=1) (hx:x.cells=[x]) (hsc:bY x=true) (he:es.set i x=es') (hs:fF (setB s id (.rows v false 1 (ao es'))) some=some s1) (h:Ops p b0 os (put e d cA) s1 Q):Ops p b0 (⟨d,.store 1 a y,none⟩::os) e s Q:=by
 subst hii
 rw [ce] at hs;injection hs with hs
 have h2:(ao es)[i']?=some (es[i'].cells.map V.d):=by simp [ao,hi]
 have h3:=h1 es[i'] (List.getElem_mem hi)
 refine osm ha hy hb hv h2 (by rw [List.length_map,h3];decide) (by simp [V.cells,hx]) (by simpa [aH] using hsc) ?_
 have h4:(ao es).set i' (splice (es[i'].cells.map V.d) 0 [.d x])=ao es':=by
  rw [<- he]
  have h5:splice (es[i'].cells.map V.d) 0 [.d x]=x.cells.map V.d:=by
   obtain ⟨z,hz⟩:=List.length_eq_one_iff.1 h3
   rw [hz,hx];rfl
  rw [h5];simp [ao,List.map_set]
 rw [h4,hs];exact h
theorem oaD {slot esz bytes id ver len:Nat} {x y:Opd} {es:List D} (z:D) (hx:ev e x = .ms id ver 0 len) (hy:cM s esz (ev e y)=some [z.cells.map V.d]) (hb:getB s id=some (.rows ver false esz (ao es))) (hl:len=es.length) (hf:([z.cells.map V.d].all fun r=>r.length==esz&&r.all aH)=true) (hr:au (len+1) bytes=true) (hs:fF (setB s id (.rows (ver+1) false esz (ao (es++[z])))) some=some s1) (h:Ops p b0 os (put e d (.ms id (ver+1) 0 (len+1))) s1 Q):Ops p b0 (⟨d,.append slot esz bytes x y,none⟩::os) e s Q:=by
 rw [ce] at hs;injection hs with hs
 refine oam hx hy hb (by rw [av];omega) rfl hf hr ?_ h
 rw [aF]
 have e1:(ao es).take len++[z.cells.map V.d]=ao (es++[z]):=by
  rw [hl,ga];simp [ao]
 rw [e1,hs]
end
theorem dV (st:List Int) : ∀ z∈st.map iD,z.cells.length=1:=by
 intro z hz
 obtain ⟨n,_,rfl⟩:=List.mem_map.1 hz
 rfl
theorem dU (st:List Int) (i:Nat) (z:Int):(st.map iD).set i (.int .i64 z)=(st.set i z).map iD:=by rw [List.map_set];rfl
theorem se : ∀ w∈W0,w.length<=3:=md ⟨by decide,by decide,by decide,by decide,by decide,by decide,by decide,by decide,by decide,by decide,by decide,by decide,by decide,by decide,by decide,by decide,by decide⟩
structure X where
 ch:List (Nat×Nat)
 m:Rat
 st:List Int
 en:Int
 tk:Nat
def chD (p:Nat×Nat):D := .agg [.int .i64 p.1,.int .i64 p.2]
open Classical in
noncomputable def val2 (p:D):Rat:=if h : ∃ r:Rat,p = .slice [ct r]/\r≠0/\aaE r then h.choose else 0
theorem Wn.val {p:D} (h:Wn p):p = .slice [ct (val2 p)]/\val2 p≠0/\aaE (val2 p):=by
 have h1 : ∃ r:Rat,p = .slice [ct r]/\r≠0/\aaE r:=let ⟨r,a,b,c,_⟩:=h;⟨r,a,b,c⟩
 unfold val2
 rw [dif_pos h1]
 exact h1.choose_spec
def clA (cs:List Ce) (o:Nat) (n:Int):Int:=(cs.getD o ⟨1,0,1⟩).cl n
mutual
noncomputable def Cm.ex (cs:List Ce) (q:Nat->Rat):Cm->X->X×Bool
 | .mk k v s f t a b g o,x =>
   if k=1 then
    match g,o with
    | [f1],[o1]=>({ x with st:=x.st.set o1 (clA cs o1 (f1.ev x.st)) },true)
    | [f1,f2],[o1,o2]=>({ x with st:=(x.st.set o1 (clA cs o1 (f1.ev x.st))).set o2 (clA cs o2 (f2.ev x.st)) },true)
    | _,_=>(x,true)
   else if k=2 then
    ({ ch:=x.ch++[(s.toNat,pk t.w (q x.tk))],m:=x.m*val2 (t.w.getD (pk t.w (q x.tk)) p0),st:=x.st.set v.toNat (clA cs v.toNat (t.lo+(pk t.w (q x.tk):Nat))),en:=x.en,tk:=x.tk+1 },true)
   else if k=3 then
    if f.ev x.st=0 then Cm.exs cs q b x else Cm.exs cs q a x
   else if k=4 then
    if f.ev x.st=0 then ({ x with en:=2 },false) else (x,true)
   else ({ x with en:=3 },false)
noncomputable def Cm.exs (cs:List Ce) (q:Nat->Rat):List Cm->X->X×Bool
 | [],x=>(x,true)
 | c::l,x=>if (c.ex cs q x).2 then Cm.exs cs q l (c.ex cs q x).1 else ((c.ex cs q x).1,false)
end
structure Fix where
 cs:List Ce
 bd:List D
 os:List Nat
 T:Ty
 b:Nat
 ts:List Nat
def Fix.q (F:Fix) (n:Nat):Rat:=mkRat (F.ts.getD n 0:Nat) F.b
abbrev aaU (F:Fix) (ch:V) (m:Rat) (stp:V) (en:Int) (rd:Nat):Option Blk:=some (.rows 0 false 17 [[.d (.int .i64 0),.d (.slice (F.cs.map Ce.d)),.d (.slice []),.d (.slice []),.d (.slice F.bd),.d (.slice (F.os.map oD)),.d (.int .i64 F.T.a),.d (.int .i64 F.T.b),.d (.int .i64 F.T.c),.d (.int .i64 F.T.d),.d (.slice F.T.e),ch,.d (.slice [ct m]),stp,.d (.int .i64 en),.func 441 [.ptr rd 0 0 0] [],.d (.int .i64 0)]])
abbrev stB (st:List Int):Option Blk:=some (.rows 0 false 1 (ao (st.map iD)))
abbrev chB (c:Nat×Nat) (l:List (Nat×Nat)):Option Blk:=some (.rows l.length false 2 (ao ((c::l).map chD)))
inductive Sh where
 | N
 | A (c:Nat×Nat) (l:List (Nat×Nat))
 | C (c:Nat×Nat) (l:List (Nat×Nat))
def Sh.ch:Sh->List (Nat×Nat)
 | .N=>[]
 | .A c l=>c::l
 | .C c l=>c::l
abbrev sN (F:Fix) (x:X):aa:=[aaU F .nils x.m (.ms 1 0 0 x.st.length) x.en 2,stB x.st,some (rdB F.b F.ts x.tk)]
abbrev sA (F:Fix) (x:X) (c:Nat×Nat) (l:List (Nat×Nat)):aa:=[aaU F (.ms 3 l.length 0 (l.length+1)) x.m (.ms 1 0 0 x.st.length) x.en 2,stB x.st,some (rdB F.b F.ts x.tk),chB c l]
abbrev sC (F:Fix) (x:X) (c:Nat×Nat) (l:List (Nat×Nat)):aa:=[aaU F (.ms 1 l.length 0 (l.length+1)) x.m (.ms 2 0 0 x.st.length) x.en 3,chB c l,stB x.st,some (rdB F.b F.ts x.tk)]
theorem gS {cs:List Ce} (hc : ∀ c∈cs,c.Ok) {o:Nat} (ho:o < cs.length) : ∃ c,(cs.map Ce.d)[o]?=some (Ce.d c) /\ ∀ n,Ret VP (.fn 66) [.d c.d,.d (.int .i64 n)] [] (.d (.int .i64 (clA cs o n))) []:=by
 refine ⟨cs[o],?_,fun n => ?_⟩
 · rw [List.getElem?_map,List.getElem?_eq_getElem ho];rfl
 · have h:=bI cs[o] (hc _ (List.getElem_mem ho)) n
   unfold clA
   rw [List.getD_eq_getElem?_getD,List.getElem?_eq_getElem ho]
   exact h
end Go.Proofs.YtemffeblbmimfaaGreat
namespace Go.Proofs.YtemffeblbmimfaaGreat
open Go.IntWalk
attribute [local irreducible] au
set_option maxHeartbeats 8000000
set_option maxRecDepth 100000
theorem I4 (F:Fix) (hcs : ∀ c∈F.cs,c.Ok) (x:X) (hst:x.st.length=F.cs.length) (l:List D) (i:Nat) (hi:i < l.length) (hl:l.length < 1000) (v s:Nat) (lo:Int) (w:List D) (hv:v < F.cs.length) (hw:w∈W0) (h1 : -1<=lo) (h2:lo<=1) (hb:F.b<=1000) (hall : ∀ t∈F.ts,t < F.b) (hlen:x.tk < F.ts.length) (htk:x.tk<=100) (hm0:x.m≠0) (hmf:fit 65536 x.m) (hg:l[i]?=some (cmD 2 v s .z (.tab lo w) [] [] [] [])) {K:List Fr} {Q:Out->Env->aa->Prop} (h:ah VP 3 [0,21,22,23] ag [.ptr 0 0 0 0,.d (.slice l),.d (.int .i64 (l.length:Nat)),.d (.int .i64 (i+1:Nat))] (sA F { x with m:=x.m*val2 (w.getD (pk w (F.q x.tk)) p0),st:=x.st.set v (clA F.cs v (lo+(pk w (F.q x.tk):Nat))),tk:=x.tk+1 } (s,pk w (F.q x.tk)) []) K Q):ah VP 3 [0,21,22,23] ag [.ptr 0 0 0 0,.d (.slice l),.d (.int .i64 (l.length:Nat)),.d (.int .i64 i)] (sN F x) K Q:=by
 have hwi:=ac i (by omega)
 have ht:decide ((i:Int) < ((l.length:Nat):Int))=true:=decide_eq_true (by omega)
 have ho:=hv
 have hu:=hv
 obtain ⟨hp,p,hgp,hwn⟩:=hH v s lo F.b F.ts x.tk hb hall (by omega) hlen w hw
 change Ret VP (.fn 441) _ _ (.d (.tuple [.int .i64 (pk w (F.q x.tk):Nat),.int .i64 0])) _ at hp
 change w[pk w (F.q x.tk)]?=some p at hgp
 generalize pk w (F.q x.tk)=n at hp hgp h
 have hn3:n < w.length:=(List.getElem?_eq_some_iff.1 hgp).1
 have hw3:=se w hw
 have ep:w.getD n p0=p:=by rw [List.getD_eq_getElem?_getD,hgp];rfl
 rw [ep] at h
 have ⟨e1,r0',hf8⟩:=hwn.val
 have ⟨_,_,_,_,hno⟩:=hwn
 generalize val2 p=r at h e1 r0' hf8
 subst e1
 have hmul:=aaY x.m r hmf ⟨by have:=hf8.1;omega,by have:=hf8.2;omega⟩ hm0 r0'
 have hwk:IntKind.i64.wrap (lo+(n:Int))=lo+(n:Int):=by rw [i64_in]<;>omega
 rw [<- hwk] at h
 obtain ⟨c,hc,hcl⟩:=gS hcs hv
 have hcl:=hcl (IntKind.i64.wrap (lo+(n:Int)))
 unfold ah
 (refine Z3r ?_;(repeat first | (refine fw (oVX rfl hp rfl rfl rfl rfl rfl rfl rfl rfl (o0 ⟨rfl,rfl⟩)) ?_;refine Z3r ?_) | (refine fw (oim rfl rfl rfl rfl rfl (by rw [hst];first | exact ho | exact hu) (by rw [av,List.length_map,Nat.zero_add];first | exact Nat.le_refl _ | (rw [List.length_set];exact Nat.le_refl _)) (o0 ⟨rfl,rfl⟩)) ?_;refine Z3r ?_) | (refine fw (osD rfl (Nat.zero_add _) rfl rfl rfl (by rw [List.length_map];(try rw [List.length_set]);rw [hst];first | exact ho | exact hu) (dV _) rfl rfl (dU _ _ _) rfl (o0 ⟨rfl,rfl⟩)) ?_;refine Z3r ?_)))
 rw [hwi]
 refine hdX rfl rfl rfl rfl ?_
 simp only [sA,List.length_set] at h
 exact h
theorem I6 (F:Fix) (hcs : ∀ c∈F.cs,c.Ok) (x:X) (hst:x.st.length=F.cs.length) (l:List D) (i:Nat) (hi:i < l.length) (hl:l.length < 1000) (c0:Nat×Nat) (ch:List (Nat×Nat)) (hch:ch.length<=10) (v s:Nat) (lo:Int) (w:List D) (hv:v < F.cs.length) (hw:w∈W0) (h1 : -1<=lo) (h2:lo<=1) (hb:F.b<=1000) (hall : ∀ t∈F.ts,t < F.b) (hlen:x.tk < F.ts.length) (htk:x.tk<=100) (hm0:x.m≠0) (hmf:fit 65536 x.m) (hg:l[i]?=some (cmD 2 v s .z (.tab lo w) [] [] [] [])) {K:List Fr} {Q:Out->Env->aa->Prop} (h:ah VP 3 [0,21,22,23] ag [.ptr 0 0 0 0,.d (.slice l),.d (.int .i64 (l.length:Nat)),.d (.int .i64 (i+1:Nat))] (sA F { x with m:=x.m*val2 (w.getD (pk w (F.q x.tk)) p0),st:=x.st.set v (clA F.cs v (lo+(pk w (F.q x.tk):Nat))),tk:=x.tk+1 } c0 (ch++[(s,pk w (F.q x.tk))])) K Q):ah VP 3 [0,21,22,23] ag [.ptr 0 0 0 0,.d (.slice l),.d (.int .i64 (l.length:Nat)),.d (.int .i64 i)] (sA F x c0 ch) K Q:=by
 have hwi:=ac i (by omega)
 have ht:decide ((i:Int) < ((l.length:Nat):Int))=true:=decide_eq_true (by omega)
 have ho:=hv
 have hu:=hv
 obtain ⟨hp,p,hgp,hwn⟩:=hH v s lo F.b F.ts x.tk hb hall (by omega) hlen w hw
 change Ret VP (.fn 441) _ _ (.d (.tuple [.int .i64 (pk w (F.q x.tk):Nat),.int .i64 0])) _ at hp
 change w[pk w (F.q x.tk)]?=some p at hgp
 generalize pk w (F.q x.tk)=n at hp hgp h
 have hn3:n < w.length:=(List.getElem?_eq_some_iff.1 hgp).1
 have hw3:=se w hw
 have ep:w.getD n p0=p:=by rw [List.getD_eq_getElem?_getD,hgp];rfl
 rw [ep] at h
 have ⟨e1,r0',hf8⟩:=hwn.val
 have ⟨_,_,_,_,hno⟩:=hwn
 generalize val2 p=r at h e1 r0' hf8
 subst e1
 have hmul:=aaY x.m r hmf ⟨by have:=hf8.1;omega,by have:=hf8.2;omega⟩ hm0 r0'
 have hwk:IntKind.i64.wrap (lo+(n:Int))=lo+(n:Int):=by rw [i64_in]<;>omega
 rw [<- hwk] at h
 obtain ⟨c,hc,hcl⟩:=gS hcs hv
 have hcl:=hcl (IntKind.i64.wrap (lo+(n:Int)))
 have hroom:au (ch.length+1+1) 16=true:=by rw [au,Bool.and_eq_true,decide_eq_true_eq,decide_eq_true_eq];omega
 have q1:(c0::(ch++[(s,n)])).map chD=(c0::ch).map chD++[chD (s,n)]:=by simp
 have q2:(ch++[(s,n)]).length=ch.length+1:=by simp
 unfold ah
 (refine Z3r ?_;(repeat first | (refine fw (oVX rfl hp rfl rfl rfl rfl rfl rfl rfl rfl (o0 ⟨rfl,rfl⟩)) ?_;refine Z3r ?_) | (refine fw (oaD (chD (s,n)) rfl rfl rfl (by simp) rfl hroom rfl (o0 ⟨rfl,rfl⟩)) ?_;refine Z3r ?_) | (refine fw (oim rfl rfl rfl rfl rfl (by rw [hst];first | exact ho | exact hu) (by rw [av,List.length_map,Nat.zero_add];first | exact Nat.le_refl _ | (rw [List.length_set];exact Nat.le_refl _)) (o0 ⟨rfl,rfl⟩)) ?_;refine Z3r ?_) | (refine fw (osD rfl (Nat.zero_add _) rfl rfl rfl (by rw [List.length_map];(try rw [List.length_set]);rw [hst];first | exact ho | exact hu) (dV _) rfl rfl (dU _ _ _) rfl (o0 ⟨rfl,rfl⟩)) ?_;refine Z3r ?_)))
 rw [hwi]
 refine hdX rfl rfl rfl rfl ?_
 simp only [sA,chB,q1,q2,List.length_set] at h
 exact h
theorem I5 (F:Fix) (hcs : ∀ c∈F.cs,c.Ok) (x:X) (hst:x.st.length=F.cs.length) (l:List D) (i:Nat) (hi:i < l.length) (hl:l.length < 1000) (c0:Nat×Nat) (ch:List (Nat×Nat)) (hch:ch.length<=10) (v s:Nat) (lo:Int) (w:List D) (hv:v < F.cs.length) (hw:w∈W0) (h1 : -1<=lo) (h2:lo<=1) (hb:F.b<=1000) (hall : ∀ t∈F.ts,t < F.b) (hlen:x.tk < F.ts.length) (htk:x.tk<=100) (hm0:x.m≠0) (hmf:fit 65536 x.m) (hg:l[i]?=some (cmD 2 v s .z (.tab lo w) [] [] [] [])) {K:List Fr} {Q:Out->Env->aa->Prop} (h:ah VP 4 [0,21,22,23] ag [.ptr 0 0 0 0,.d (.slice l),.d (.int .i64 (l.length:Nat)),.d (.int .i64 (i+1:Nat))] (sC F { x with m:=x.m*val2 (w.getD (pk w (F.q x.tk)) p0),st:=x.st.set v (clA F.cs v (lo+(pk w (F.q x.tk):Nat))),tk:=x.tk+1 } c0 (ch++[(s,pk w (F.q x.tk))])) K Q):ah VP 4 [0,21,22,23] ag [.ptr 0 0 0 0,.d (.slice l),.d (.int .i64 (l.length:Nat)),.d (.int .i64 i)] (sC F x c0 ch) K Q:=by
 have hwi:=ac i (by omega)
 have ht:decide ((i:Int) < ((l.length:Nat):Int))=true:=decide_eq_true (by omega)
 have ho:=hv
 have hu:=hv
 obtain ⟨hp,p,hgp,hwn⟩:=hH v s lo F.b F.ts x.tk hb hall (by omega) hlen w hw
 change Ret VP (.fn 441) _ _ (.d (.tuple [.int .i64 (pk w (F.q x.tk):Nat),.int .i64 0])) _ at hp
 change w[pk w (F.q x.tk)]?=some p at hgp
 generalize pk w (F.q x.tk)=n at hp hgp h
 have hn3:n < w.length:=(List.getElem?_eq_some_iff.1 hgp).1
 have hw3:=se w hw
 have ep:w.getD n p0=p:=by rw [List.getD_eq_getElem?_getD,hgp];rfl
 rw [ep] at h
 have ⟨e1,r0',hf8⟩:=hwn.val
 have ⟨_,_,_,_,hno⟩:=hwn
 generalize val2 p=r at h e1 r0' hf8
 subst e1
 have hmul:=aaY x.m r hmf ⟨by have:=hf8.1;omega,by have:=hf8.2;omega⟩ hm0 r0'
 have hwk:IntKind.i64.wrap (lo+(n:Int))=lo+(n:Int):=by rw [i64_in]<;>omega
 rw [<- hwk] at h
 obtain ⟨c,hc,hcl⟩:=gS hcs hv
 have hcl:=hcl (IntKind.i64.wrap (lo+(n:Int)))
 have hroom:au (ch.length+1+1) 16=true:=by rw [au,Bool.and_eq_true,decide_eq_true_eq,decide_eq_true_eq];omega
 have q1:(c0::(ch++[(s,n)])).map chD=(c0::ch).map chD++[chD (s,n)]:=by simp
 have q2:(ch++[(s,n)]).length=ch.length+1:=by simp
 unfold ah
 (refine Z3r ?_;(repeat first | (refine fw (oVX rfl hp rfl rfl rfl rfl rfl rfl rfl rfl (o0 ⟨rfl,rfl⟩)) ?_;refine Z3r ?_) | (refine fw (oaD (chD (s,n)) rfl rfl rfl (by simp) rfl hroom rfl (o0 ⟨rfl,rfl⟩)) ?_;refine Z3r ?_) | (refine fw (oim rfl rfl rfl rfl rfl (by rw [hst];first | exact ho | exact hu) (by rw [av,List.length_map,Nat.zero_add];first | exact Nat.le_refl _ | (rw [List.length_set];exact Nat.le_refl _)) (o0 ⟨rfl,rfl⟩)) ?_;refine Z3r ?_) | (refine fw (osD rfl (Nat.zero_add _) rfl rfl rfl (by rw [List.length_map];(try rw [List.length_set]);rw [hst];first | exact ho | exact hu) (dV _) rfl rfl (dU _ _ _) rfl (o0 ⟨rfl,rfl⟩)) ?_;refine Z3r ?_)))
 rw [hwi]
 refine hdX rfl rfl rfl rfl ?_
 simp only [sC,chB,q1,q2,List.length_set] at h
 exact h
theorem H9 (F:Fix) (hcs : ∀ c∈F.cs,c.Ok) (x:X) (hst:x.st.length=F.cs.length) (l:List D) (i:Nat) (hi:i < l.length) (hl:l.length < 1000) (o:Nat) (f:Fo) (ho:o < F.cs.length) (hf:cU F.cs.length f) (hg:l[i]?=some (cmD 1 0 0 .z .z [] [] [f.d] [oD o])) {K:List Fr} {Q:Out->Env->aa->Prop} (h:ah VP 3 [0,21,22,23] ag [.ptr 0 0 0 0,.d (.slice l),.d (.int .i64 (l.length:Nat)),.d (.int .i64 (i+1:Nat))] (sN F { x with st:=x.st.set o (clA F.cs o (f.ev x.st)) }) K Q):ah VP 3 [0,21,22,23] ag [.ptr 0 0 0 0,.d (.slice l),.d (.int .i64 (l.length:Nat)),.d (.int .i64 i)] (sN F x) K Q:=by
 have hwi:=ac i (by omega)
 have ht:decide ((i:Int) < ((l.length:Nat):Int))=true:=decide_eq_true (by omega)
 have hE:=aE F.cs.length x.st hst f hf.1 (by have:=hf.2.1;omega) (by have:=hf.2.2;omega)
 have hu:=ho
 obtain ⟨c,hc,hcl⟩:=gS hcs ho
 have hcl:=hcl (f.ev x.st)
 unfold ah
 refine Z3r ?_
 refine lhX rfl rfl rfl rfl ?_
 (refine Z3r ?_;(repeat first | (refine fw (bR hE (aK rfl (by simp) (bM _)) rfl rfl (o0 ⟨rfl,rfl⟩)) ?_;refine Z3r ?_)))
 refine lhX rfl rfl rfl rfl ?_
 refine Z3r ?_
 refine lhX rfl rfl rfl rfl ?_
 (refine Z3r ?_;(repeat first | (refine fw (oim rfl rfl rfl rfl rfl (by rw [hst];first | exact ho | exact hu) (by rw [av,List.length_map,Nat.zero_add];first | exact Nat.le_refl _ | (rw [List.length_set];exact Nat.le_refl _)) (o0 ⟨rfl,rfl⟩)) ?_;refine Z3r ?_) | (refine fw (osD rfl (Nat.zero_add _) rfl rfl rfl (by rw [List.length_map];(try rw [List.length_set]);rw [hst];first | exact ho | exact hu) (dV _) rfl rfl (dU _ _ _) rfl (o0 ⟨rfl,rfl⟩)) ?_;refine Z3r ?_)))
 refine lhX rfl rfl rfl rfl ?_
 refine Z3r ?_
 rw [hwi]
 refine hdX rfl rfl rfl rfl ?_
 simp only [sN,List.length_set] at h
 exact h
theorem H6 (F:Fix) (hcs : ∀ c∈F.cs,c.Ok) (x:X) (hst:x.st.length=F.cs.length) (l:List D) (i:Nat) (hi:i < l.length) (hl:l.length < 1000) (o u:Nat) (f g:Fo) (ho:o < F.cs.length) (hu:u < F.cs.length) (hf:cU F.cs.length f) (hg:cU F.cs.length g) (hget:l[i]?=some (cmD 1 0 0 .z .z [] [] [f.d,g.d] [oD o,oD u])) {K:List Fr} {Q:Out->Env->aa->Prop} (h:ah VP 3 [0,21,22,23] ag [.ptr 0 0 0 0,.d (.slice l),.d (.int .i64 (l.length:Nat)),.d (.int .i64 (i+1:Nat))] (sN F { x with st:=(x.st.set o (clA F.cs o (f.ev x.st))).set u (clA F.cs u (g.ev x.st)) }) K Q):ah VP 3 [0,21,22,23] ag [.ptr 0 0 0 0,.d (.slice l),.d (.int .i64 (l.length:Nat)),.d (.int .i64 i)] (sN F x) K Q:=by
 have hwi:=ac i (by omega)
 have ht:decide ((i:Int) < ((l.length:Nat):Int))=true:=decide_eq_true (by omega)
 have hE1:=aE F.cs.length x.st hst f hf.1 (by have:=hf.2.1;omega) (by have:=hf.2.2;omega)
 have hE2:=aE F.cs.length x.st hst g hg.1 (by have:=hg.2.1;omega) (by have:=hg.2.2;omega)
 obtain ⟨c,hc,hcl⟩:=gS hcs ho
 have hcl:=hcl (f.ev x.st)
 obtain ⟨c',hc',hcl'⟩:=gS hcs hu
 have hcl':=hcl' (g.ev x.st)
 unfold ah
 refine Z3r ?_
 refine lhX rfl rfl rfl rfl ?_
 (refine Z3r ?_;(repeat first | (refine fw (bR hE1 (aK rfl (by simp) (bM _)) rfl rfl (o0 ⟨rfl,rfl⟩)) ?_;refine Z3r ?_)))
 refine lhX rfl rfl rfl rfl ?_
 (refine Z3r ?_;(repeat first | (refine fw (bR hE2 (aK rfl (by simp) (bM _)) rfl rfl (o0 ⟨rfl,rfl⟩)) ?_;refine Z3r ?_)))
 refine lhX rfl rfl rfl rfl ?_
 refine Z3r ?_
 refine lhX rfl rfl rfl rfl ?_
 (refine Z3r ?_;(repeat first | (refine fw (oim rfl rfl rfl rfl rfl (by rw [hst];first | exact ho | exact hu) (by rw [av,List.length_map,Nat.zero_add];first | exact Nat.le_refl _ | (rw [List.length_set];exact Nat.le_refl _)) (o0 ⟨rfl,rfl⟩)) ?_;refine Z3r ?_) | (refine fw (osD rfl (Nat.zero_add _) rfl rfl rfl (by rw [List.length_map];(try rw [List.length_set]);rw [hst];first | exact ho | exact hu) (dV _) rfl rfl (dU _ _ _) rfl (o0 ⟨rfl,rfl⟩)) ?_;refine Z3r ?_)))
 refine lhX rfl rfl rfl rfl ?_
 (refine Z3r ?_;(repeat first | (refine fw (oim rfl rfl rfl rfl rfl (by rw [hst];first | exact ho | exact hu) (by rw [av,List.length_map,Nat.zero_add];first | exact Nat.le_refl _ | (rw [List.length_set];exact Nat.le_refl _)) (o0 ⟨rfl,rfl⟩)) ?_;refine Z3r ?_) | (refine fw (osD rfl (Nat.zero_add _) rfl rfl rfl (by rw [List.length_map];(try rw [List.length_set]);rw [hst];first | exact ho | exact hu) (dV _) rfl rfl (dU _ _ _) rfl (o0 ⟨rfl,rfl⟩)) ?_;refine Z3r ?_)))
 refine lhX rfl rfl rfl rfl ?_
 refine Z3r ?_
 rw [hwi]
 refine hdX rfl rfl rfl rfl ?_
 simp only [sN,List.length_set] at h
 exact h
theorem Ip (F:Fix) (hcs : ∀ c∈F.cs,c.Ok) (x:X) (hst:x.st.length=F.cs.length) (l:List D) (i:Nat) (hi:i < l.length) (hl:l.length < 1000) (f:Fo) (hf:cU F.cs.length f) (hg:l[i]?=some (cmD 4 0 0 f .z [] [] [] [])) (h0:f.ev x.st≠0) {K:List Fr} {Q:Out->Env->aa->Prop} (h:ah VP 3 [0,21,22,23] ag [.ptr 0 0 0 0,.d (.slice l),.d (.int .i64 (l.length:Nat)),.d (.int .i64 (i+1:Nat))] (sN F x) K Q):ah VP 3 [0,21,22,23] ag [.ptr 0 0 0 0,.d (.slice l),.d (.int .i64 (l.length:Nat)),.d (.int .i64 i)] (sN F x) K Q:=by
 have hwi:=ac i (by omega)
 have ht:decide ((i:Int) < ((l.length:Nat):Int))=true:=decide_eq_true (by omega)
 have hE:=aE F.cs.length x.st hst f hf.1 (by have:=hf.2.1;omega) (by have:=hf.2.2;omega)
 have t0:(f.ev x.st==0)=false:=by simpa using h0
 unfold ah
 (refine Z3r ?_;(repeat first | (refine fw (bR hE (aK rfl (by simp) (bM _)) rfl rfl (o0 ⟨rfl,rfl⟩)) ?_;refine Z3r ?_)))
 rw [hwi]
 refine hdX rfl rfl rfl rfl ?_
 exact h
theorem Is (F:Fix) (hcs : ∀ c∈F.cs,c.Ok) (x:X) (hst:x.st.length=F.cs.length) (l:List D) (i:Nat) (hi:i < l.length) (hl:l.length < 1000) (f:Fo) (hf:cU F.cs.length f) (hg:l[i]?=some (cmD 4 0 0 f .z [] [] [] [])) (h0:f.ev x.st=0) {K:List Fr} : ah VP 3 [0,21,22,23] ag [.ptr 0 0 0 0,.d (.slice l),.d (.int .i64 (l.length:Nat)),.d (.int .i64 i)] (sN F x) K (fun o e s=>fin f67.keep 3 f67.res o e s=some (.d (.bool false),(sN F { x with en:=2 }))):=by
 have hwi:=ac i (by omega)
 have ht:decide ((i:Int) < ((l.length:Nat):Int))=true:=decide_eq_true (by omega)
 have hE:=aE F.cs.length x.st hst f hf.1 (by have:=hf.2.1;omega) (by have:=hf.2.2;omega)
 have t0:(f.ev x.st==0)=true:=by simpa using h0
 unfold ah
 (refine Z3r ?_;(repeat first | (refine fw (bR hE (aK rfl (by simp) (bM _)) rfl rfl (o0 ⟨rfl,rfl⟩)) ?_;refine Z3r ?_)))
 exact kG (xs:=[.d (.bool false)]) rfl rfl rfl rfl
theorem abM (F:Fix) (hcs : ∀ c∈F.cs,c.Ok) (x:X) (hst:x.st.length=F.cs.length) (l:List D) (i:Nat) (hi:i < l.length) (hl:l.length < 1000) (hg:l[i]?=some (cmD 5 0 0 .z .z [] [] [] [])) {K:List Fr} : ah VP 3 [0,21,22,23] ag [.ptr 0 0 0 0,.d (.slice l),.d (.int .i64 (l.length:Nat)),.d (.int .i64 i)] (sN F x) K (fun o e s=>fin f67.keep 3 f67.res o e s=some (.d (.bool false),(sN F { x with en:=3 }))):=by
 have hwi:=ac i (by omega)
 have ht:decide ((i:Int) < ((l.length:Nat):Int))=true:=decide_eq_true (by omega)
 unfold ah
 refine Z3r ?_
 exact kG (xs:=[.d (.bool false)]) rfl rfl rfl rfl
theorem Ib (F:Fix) (hcs : ∀ c∈F.cs,c.Ok) (x:X) (hst:x.st.length=F.cs.length) (l:List D) (i:Nat) (hi:i < l.length) (hl:l.length < 1000) (c0:Nat×Nat) (ch:List (Nat×Nat)) (o:Nat) (f:Fo) (ho:o < F.cs.length) (hf:cU F.cs.length f) (hg:l[i]?=some (cmD 1 0 0 .z .z [] [] [f.d] [oD o])) {K:List Fr} {Q:Out->Env->aa->Prop} (h:ah VP 3 [0,21,22,23] ag [.ptr 0 0 0 0,.d (.slice l),.d (.int .i64 (l.length:Nat)),.d (.int .i64 (i+1:Nat))] (sA F { x with st:=x.st.set o (clA F.cs o (f.ev x.st)) } c0 ch) K Q):ah VP 3 [0,21,22,23] ag [.ptr 0 0 0 0,.d (.slice l),.d (.int .i64 (l.length:Nat)),.d (.int .i64 i)] (sA F x c0 ch) K Q:=by
 have hwi:=ac i (by omega)
 have ht:decide ((i:Int) < ((l.length:Nat):Int))=true:=decide_eq_true (by omega)
 have hE:=aE F.cs.length x.st hst f hf.1 (by have:=hf.2.1;omega) (by have:=hf.2.2;omega)
 have hu:=ho
 obtain ⟨c,hc,hcl⟩:=gS hcs ho
 have hcl:=hcl (f.ev x.st)
 unfold ah
 refine Z3r ?_
 refine lhX rfl rfl rfl rfl ?_
 (refine Z3r ?_;(repeat first | (refine fw (bR hE (aK rfl (by simp) (bM _)) rfl rfl (o0 ⟨rfl,rfl⟩)) ?_;refine Z3r ?_)))
 refine lhX rfl rfl rfl rfl ?_
 refine Z3r ?_
 refine lhX rfl rfl rfl rfl ?_
 (refine Z3r ?_;(repeat first | (refine fw (oim rfl rfl rfl rfl rfl (by rw [hst];first | exact ho | exact hu) (by rw [av,List.length_map,Nat.zero_add];first | exact Nat.le_refl _ | (rw [List.length_set];exact Nat.le_refl _)) (o0 ⟨rfl,rfl⟩)) ?_;refine Z3r ?_) | (refine fw (osD rfl (Nat.zero_add _) rfl rfl rfl (by rw [List.length_map];(try rw [List.length_set]);rw [hst];first | exact ho | exact hu) (dV _) rfl rfl (dU _ _ _) rfl (o0 ⟨rfl,rfl⟩)) ?_;refine Z3r ?_)))
 refine lhX rfl rfl rfl rfl ?_
 refine Z3r ?_
 rw [hwi]
 refine hdX rfl rfl rfl rfl ?_
 simp only [sA,List.length_set] at h
 exact h
theorem H8 (F:Fix) (hcs : ∀ c∈F.cs,c.Ok) (x:X) (hst:x.st.length=F.cs.length) (l:List D) (i:Nat) (hi:i < l.length) (hl:l.length < 1000) (c0:Nat×Nat) (ch:List (Nat×Nat)) (o u:Nat) (f g:Fo) (ho:o < F.cs.length) (hu:u < F.cs.length) (hf:cU F.cs.length f) (hg:cU F.cs.length g) (hget:l[i]?=some (cmD 1 0 0 .z .z [] [] [f.d,g.d] [oD o,oD u])) {K:List Fr} {Q:Out->Env->aa->Prop} (h:ah VP 3 [0,21,22,23] ag [.ptr 0 0 0 0,.d (.slice l),.d (.int .i64 (l.length:Nat)),.d (.int .i64 (i+1:Nat))] (sA F { x with st:=(x.st.set o (clA F.cs o (f.ev x.st))).set u (clA F.cs u (g.ev x.st)) } c0 ch) K Q):ah VP 3 [0,21,22,23] ag [.ptr 0 0 0 0,.d (.slice l),.d (.int .i64 (l.length:Nat)),.d (.int .i64 i)] (sA F x c0 ch) K Q:=by
 have hwi:=ac i (by omega)
 have ht:decide ((i:Int) < ((l.length:Nat):Int))=true:=decide_eq_true (by omega)
 have hE1:=aE F.cs.length x.st hst f hf.1 (by have:=hf.2.1;omega) (by have:=hf.2.2;omega)
 have hE2:=aE F.cs.length x.st hst g hg.1 (by have:=hg.2.1;omega) (by have:=hg.2.2;omega)
 obtain ⟨c,hc,hcl⟩:=gS hcs ho
 have hcl:=hcl (f.ev x.st)
 obtain ⟨c',hc',hcl'⟩:=gS hcs hu
 have hcl':=hcl' (g.ev x.st)
 unfold ah
 refine Z3r ?_
 refine lhX rfl rfl rfl rfl ?_
 (refine Z3r ?_;(repeat first | (refine fw (bR hE1 (aK rfl (by simp) (bM _)) rfl rfl (o0 ⟨rfl,rfl⟩)) ?_;refine Z3r ?_)))
 refine lhX rfl rfl rfl rfl ?_
 (refine Z3r ?_;(repeat first | (refine fw (bR hE2 (aK rfl (by simp) (bM _)) rfl rfl (o0 ⟨rfl,rfl⟩)) ?_;refine Z3r ?_)))
 refine lhX rfl rfl rfl rfl ?_
 refine Z3r ?_
 refine lhX rfl rfl rfl rfl ?_
 (refine Z3r ?_;(repeat first | (refine fw (oim rfl rfl rfl rfl rfl (by rw [hst];first | exact ho | exact hu) (by rw [av,List.length_map,Nat.zero_add];first | exact Nat.le_refl _ | (rw [List.length_set];exact Nat.le_refl _)) (o0 ⟨rfl,rfl⟩)) ?_;refine Z3r ?_) | (refine fw (osD rfl (Nat.zero_add _) rfl rfl rfl (by rw [List.length_map];(try rw [List.length_set]);rw [hst];first | exact ho | exact hu) (dV _) rfl rfl (dU _ _ _) rfl (o0 ⟨rfl,rfl⟩)) ?_;refine Z3r ?_)))
 refine lhX rfl rfl rfl rfl ?_
 (refine Z3r ?_;(repeat first | (refine fw (oim rfl rfl rfl rfl rfl (by rw [hst];first | exact ho | exact hu) (by rw [av,List.length_map,Nat.zero_add];first | exact Nat.le_refl _ | (rw [List.length_set];exact Nat.le_refl _)) (o0 ⟨rfl,rfl⟩)) ?_;refine Z3r ?_) | (refine fw (osD rfl (Nat.zero_add _) rfl rfl rfl (by rw [List.length_map];(try rw [List.length_set]);rw [hst];first | exact ho | exact hu) (dV _) rfl rfl (dU _ _ _) rfl (o0 ⟨rfl,rfl⟩)) ?_;refine Z3r ?_)))
 refine lhX rfl rfl rfl rfl ?_
 refine Z3r ?_
 rw [hwi]
 refine hdX rfl rfl rfl rfl ?_
 simp only [sA,List.length_set] at h
 exact h
theorem Ir (F:Fix) (hcs : ∀ c∈F.cs,c.Ok) (x:X) (hst:x.st.length=F.cs.length) (l:List D) (i:Nat) (hi:i < l.length) (hl:l.length < 1000) (c0:Nat×Nat) (ch:List (Nat×Nat)) (f:Fo) (hf:cU F.cs.length f) (hg:l[i]?=some (cmD 4 0 0 f .z [] [] [] [])) (h0:f.ev x.st≠0) {K:List Fr} {Q:Out->Env->aa->Prop} (h:ah VP 3 [0,21,22,23] ag [.ptr 0 0 0 0,.d (.slice l),.d (.int .i64 (l.length:Nat)),.d (.int .i64 (i+1:Nat))] (sA F x c0 ch) K Q):ah VP 3 [0,21,22,23] ag [.ptr 0 0 0 0,.d (.slice l),.d (.int .i64 (l.length:Nat)),.d (.int .i64 i)] (sA F x c0 ch) K Q:=by
 have hwi:=ac i (by omega)
 have ht:decide ((i:Int) < ((l.length:Nat):Int))=true:=decide_eq_true (by omega)
 have hE:=aE F.cs.length x.st hst f hf.1 (by have:=hf.2.1;omega) (by have:=hf.2.2;omega)
 have t0:(f.ev x.st==0)=false:=by simpa using h0
 unfold ah
 (refine Z3r ?_;(repeat first | (refine fw (bR hE (aK rfl (by simp) (bM _)) rfl rfl (o0 ⟨rfl,rfl⟩)) ?_;refine Z3r ?_)))
 rw [hwi]
 refine hdX rfl rfl rfl rfl ?_
 exact h
theorem Iu (F:Fix) (hcs : ∀ c∈F.cs,c.Ok) (x:X) (hst:x.st.length=F.cs.length) (l:List D) (i:Nat) (hi:i < l.length) (hl:l.length < 1000) (c0:Nat×Nat) (ch:List (Nat×Nat)) (f:Fo) (hf:cU F.cs.length f) (hg:l[i]?=some (cmD 4 0 0 f .z [] [] [] [])) (h0:f.ev x.st=0) {K:List Fr} : ah VP 3 [0,21,22,23] ag [.ptr 0 0 0 0,.d (.slice l),.d (.int .i64 (l.length:Nat)),.d (.int .i64 i)] (sA F x c0 ch) K (fun o e s=>fin f67.keep 3 f67.res o e s=some (.d (.bool false),(sA F { x with en:=2 } c0 ch))):=by
 have hwi:=ac i (by omega)
 have ht:decide ((i:Int) < ((l.length:Nat):Int))=true:=decide_eq_true (by omega)
 have hE:=aE F.cs.length x.st hst f hf.1 (by have:=hf.2.1;omega) (by have:=hf.2.2;omega)
 have t0:(f.ev x.st==0)=true:=by simpa using h0
 unfold ah
 (refine Z3r ?_;(repeat first | (refine fw (bR hE (aK rfl (by simp) (bM _)) rfl rfl (o0 ⟨rfl,rfl⟩)) ?_;refine Z3r ?_)))
 exact kG (xs:=[.d (.bool false)]) rfl rfl rfl rfl
theorem abO (F:Fix) (hcs : ∀ c∈F.cs,c.Ok) (x:X) (hst:x.st.length=F.cs.length) (l:List D) (i:Nat) (hi:i < l.length) (hl:l.length < 1000) (c0:Nat×Nat) (ch:List (Nat×Nat)) (hg:l[i]?=some (cmD 5 0 0 .z .z [] [] [] [])) {K:List Fr} : ah VP 3 [0,21,22,23] ag [.ptr 0 0 0 0,.d (.slice l),.d (.int .i64 (l.length:Nat)),.d (.int .i64 i)] (sA F x c0 ch) K (fun o e s=>fin f67.keep 3 f67.res o e s=some (.d (.bool false),(sA F { x with en:=3 } c0 ch))):=by
 have hwi:=ac i (by omega)
 have ht:decide ((i:Int) < ((l.length:Nat):Int))=true:=decide_eq_true (by omega)
 unfold ah
 refine Z3r ?_
 exact kG (xs:=[.d (.bool false)]) rfl rfl rfl rfl
theorem Ia (F:Fix) (hcs : ∀ c∈F.cs,c.Ok) (x:X) (hst:x.st.length=F.cs.length) (l:List D) (i:Nat) (hi:i < l.length) (hl:l.length < 1000) (c0:Nat×Nat) (ch:List (Nat×Nat)) (o:Nat) (f:Fo) (ho:o < F.cs.length) (hf:cU F.cs.length f) (hg:l[i]?=some (cmD 1 0 0 .z .z [] [] [f.d] [oD o])) {K:List Fr} {Q:Out->Env->aa->Prop} (h:ah VP 4 [0,21,22,23] ag [.ptr 0 0 0 0,.d (.slice l),.d (.int .i64 (l.length:Nat)),.d (.int .i64 (i+1:Nat))] (sC F { x with st:=x.st.set o (clA F.cs o (f.ev x.st)) } c0 ch) K Q):ah VP 4 [0,21,22,23] ag [.ptr 0 0 0 0,.d (.slice l),.d (.int .i64 (l.length:Nat)),.d (.int .i64 i)] (sC F x c0 ch) K Q:=by
 have hwi:=ac i (by omega)
 have ht:decide ((i:Int) < ((l.length:Nat):Int))=true:=decide_eq_true (by omega)
 have hE:=aE F.cs.length x.st hst f hf.1 (by have:=hf.2.1;omega) (by have:=hf.2.2;omega)
 have hu:=ho
 obtain ⟨c,hc,hcl⟩:=gS hcs ho
 have hcl:=hcl (f.ev x.st)
 unfold ah
 refine Z3r ?_
 refine lhX rfl rfl rfl rfl ?_
 (refine Z3r ?_;(repeat first | (refine fw (bR hE (aK rfl (by simp) (bM _)) rfl rfl (o0 ⟨rfl,rfl⟩)) ?_;refine Z3r ?_)))
 refine lhX rfl rfl rfl rfl ?_
 refine Z3r ?_
 refine lhX rfl rfl rfl rfl ?_
 (refine Z3r ?_;(repeat first | (refine fw (oim rfl rfl rfl rfl rfl (by rw [hst];first | exact ho | exact hu) (by rw [av,List.length_map,Nat.zero_add];first | exact Nat.le_refl _ | (rw [List.length_set];exact Nat.le_refl _)) (o0 ⟨rfl,rfl⟩)) ?_;refine Z3r ?_) | (refine fw (osD rfl (Nat.zero_add _) rfl rfl rfl (by rw [List.length_map];(try rw [List.length_set]);rw [hst];first | exact ho | exact hu) (dV _) rfl rfl (dU _ _ _) rfl (o0 ⟨rfl,rfl⟩)) ?_;refine Z3r ?_)))
 refine lhX rfl rfl rfl rfl ?_
 refine Z3r ?_
 rw [hwi]
 refine hdX rfl rfl rfl rfl ?_
 simp only [sC,List.length_set] at h
 exact h
theorem H7 (F:Fix) (hcs : ∀ c∈F.cs,c.Ok) (x:X) (hst:x.st.length=F.cs.length) (l:List D) (i:Nat) (hi:i < l.length) (hl:l.length < 1000) (c0:Nat×Nat) (ch:List (Nat×Nat)) (o u:Nat) (f g:Fo) (ho:o < F.cs.length) (hu:u < F.cs.length) (hf:cU F.cs.length f) (hg:cU F.cs.length g) (hget:l[i]?=some (cmD 1 0 0 .z .z [] [] [f.d,g.d] [oD o,oD u])) {K:List Fr} {Q:Out->Env->aa->Prop} (h:ah VP 4 [0,21,22,23] ag [.ptr 0 0 0 0,.d (.slice l),.d (.int .i64 (l.length:Nat)),.d (.int .i64 (i+1:Nat))] (sC F { x with st:=(x.st.set o (clA F.cs o (f.ev x.st))).set u (clA F.cs u (g.ev x.st)) } c0 ch) K Q):ah VP 4 [0,21,22,23] ag [.ptr 0 0 0 0,.d (.slice l),.d (.int .i64 (l.length:Nat)),.d (.int .i64 i)] (sC F x c0 ch) K Q:=by
 have hwi:=ac i (by omega)
 have ht:decide ((i:Int) < ((l.length:Nat):Int))=true:=decide_eq_true (by omega)
 have hE1:=aE F.cs.length x.st hst f hf.1 (by have:=hf.2.1;omega) (by have:=hf.2.2;omega)
 have hE2:=aE F.cs.length x.st hst g hg.1 (by have:=hg.2.1;omega) (by have:=hg.2.2;omega)
 obtain ⟨c,hc,hcl⟩:=gS hcs ho
 have hcl:=hcl (f.ev x.st)
 obtain ⟨c',hc',hcl'⟩:=gS hcs hu
 have hcl':=hcl' (g.ev x.st)
 unfold ah
 refine Z3r ?_
 refine lhX rfl rfl rfl rfl ?_
 (refine Z3r ?_;(repeat first | (refine fw (bR hE1 (aK rfl (by simp) (bM _)) rfl rfl (o0 ⟨rfl,rfl⟩)) ?_;refine Z3r ?_)))
 refine lhX rfl rfl rfl rfl ?_
 (refine Z3r ?_;(repeat first | (refine fw (bR hE2 (aK rfl (by simp) (bM _)) rfl rfl (o0 ⟨rfl,rfl⟩)) ?_;refine Z3r ?_)))
 refine lhX rfl rfl rfl rfl ?_
 refine Z3r ?_
 refine lhX rfl rfl rfl rfl ?_
 (refine Z3r ?_;(repeat first | (refine fw (oim rfl rfl rfl rfl rfl (by rw [hst];first | exact ho | exact hu) (by rw [av,List.length_map,Nat.zero_add];first | exact Nat.le_refl _ | (rw [List.length_set];exact Nat.le_refl _)) (o0 ⟨rfl,rfl⟩)) ?_;refine Z3r ?_) | (refine fw (osD rfl (Nat.zero_add _) rfl rfl rfl (by rw [List.length_map];(try rw [List.length_set]);rw [hst];first | exact ho | exact hu) (dV _) rfl rfl (dU _ _ _) rfl (o0 ⟨rfl,rfl⟩)) ?_;refine Z3r ?_)))
 refine lhX rfl rfl rfl rfl ?_
 (refine Z3r ?_;(repeat first | (refine fw (oim rfl rfl rfl rfl rfl (by rw [hst];first | exact ho | exact hu) (by rw [av,List.length_map,Nat.zero_add];first | exact Nat.le_refl _ | (rw [List.length_set];exact Nat.le_refl _)) (o0 ⟨rfl,rfl⟩)) ?_;refine Z3r ?_) | (refine fw (osD rfl (Nat.zero_add _) rfl rfl rfl (by rw [List.length_map];(try rw [List.length_set]);rw [hst];first | exact ho | exact hu) (dV _) rfl rfl (dU _ _ _) rfl (o0 ⟨rfl,rfl⟩)) ?_;refine Z3r ?_)))
 refine lhX rfl rfl rfl rfl ?_
 refine Z3r ?_
 rw [hwi]
 refine hdX rfl rfl rfl rfl ?_
 simp only [sC,List.length_set] at h
 exact h
theorem Iq (F:Fix) (hcs : ∀ c∈F.cs,c.Ok) (x:X) (hst:x.st.length=F.cs.length) (l:List D) (i:Nat) (hi:i < l.length) (hl:l.length < 1000) (c0:Nat×Nat) (ch:List (Nat×Nat)) (f:Fo) (hf:cU F.cs.length f) (hg:l[i]?=some (cmD 4 0 0 f .z [] [] [] [])) (h0:f.ev x.st≠0) {K:List Fr} {Q:Out->Env->aa->Prop} (h:ah VP 4 [0,21,22,23] ag [.ptr 0 0 0 0,.d (.slice l),.d (.int .i64 (l.length:Nat)),.d (.int .i64 (i+1:Nat))] (sC F x c0 ch) K Q):ah VP 4 [0,21,22,23] ag [.ptr 0 0 0 0,.d (.slice l),.d (.int .i64 (l.length:Nat)),.d (.int .i64 i)] (sC F x c0 ch) K Q:=by
 have hwi:=ac i (by omega)
 have ht:decide ((i:Int) < ((l.length:Nat):Int))=true:=decide_eq_true (by omega)
 have hE:=aE F.cs.length x.st hst f hf.1 (by have:=hf.2.1;omega) (by have:=hf.2.2;omega)
 have t0:(f.ev x.st==0)=false:=by simpa using h0
 unfold ah
 (refine Z3r ?_;(repeat first | (refine fw (bR hE (aK rfl (by simp) (bM _)) rfl rfl (o0 ⟨rfl,rfl⟩)) ?_;refine Z3r ?_)))
 rw [hwi]
 refine hdX rfl rfl rfl rfl ?_
 exact h
theorem It (F:Fix) (hcs : ∀ c∈F.cs,c.Ok) (x:X) (hst:x.st.length=F.cs.length) (l:List D) (i:Nat) (hi:i < l.length) (hl:l.length < 1000) (c0:Nat×Nat) (ch:List (Nat×Nat)) (f:Fo) (hf:cU F.cs.length f) (hg:l[i]?=some (cmD 4 0 0 f .z [] [] [] [])) (h0:f.ev x.st=0) {K:List Fr} : ah VP 4 [0,21,22,23] ag [.ptr 0 0 0 0,.d (.slice l),.d (.int .i64 (l.length:Nat)),.d (.int .i64 i)] (sC F x c0 ch) K (fun o e s=>fin f67.keep 4 f67.res o e s=some (.d (.bool false),(sC F { x with en:=2 } c0 ch))):=by
 have hwi:=ac i (by omega)
 have ht:decide ((i:Int) < ((l.length:Nat):Int))=true:=decide_eq_true (by omega)
 have hE:=aE F.cs.length x.st hst f hf.1 (by have:=hf.2.1;omega) (by have:=hf.2.2;omega)
 have t0:(f.ev x.st==0)=true:=by simpa using h0
 unfold ah
 (refine Z3r ?_;(repeat first | (refine fw (bR hE (aK rfl (by simp) (bM _)) rfl rfl (o0 ⟨rfl,rfl⟩)) ?_;refine Z3r ?_)))
 exact kG (xs:=[.d (.bool false)]) rfl rfl rfl rfl
theorem abN (F:Fix) (hcs : ∀ c∈F.cs,c.Ok) (x:X) (hst:x.st.length=F.cs.length) (l:List D) (i:Nat) (hi:i < l.length) (hl:l.length < 1000) (c0:Nat×Nat) (ch:List (Nat×Nat)) (hg:l[i]?=some (cmD 5 0 0 .z .z [] [] [] [])) {K:List Fr} : ah VP 4 [0,21,22,23] ag [.ptr 0 0 0 0,.d (.slice l),.d (.int .i64 (l.length:Nat)),.d (.int .i64 i)] (sC F x c0 ch) K (fun o e s=>fin f67.keep 4 f67.res o e s=some (.d (.bool false),(sC F { x with en:=3 } c0 ch))):=by
 have hwi:=ac i (by omega)
 have ht:decide ((i:Int) < ((l.length:Nat):Int))=true:=decide_eq_true (by omega)
 unfold ah
 refine Z3r ?_
 exact kG (xs:=[.d (.bool false)]) rfl rfl rfl rfl
theorem wC (F:Fix) (hcs : ∀ c∈F.cs,c.Ok) (x:X) (hst:x.st.length=F.cs.length) (l:List D) (i:Nat) (hi:i < l.length) (hl:l.length < 1000) (y:X) (f:Fo) (a b:List D) (hf:cU F.cs.length f) (hg:l[i]?=some (cmD 3 0 0 f .z a b [] [])) (h0:f.ev x.st≠0) (hr:Ret VP (.fn 67) [.ptr 0 0 0 0,.d (.slice a)] (sN F x) (.d (.bool true)) (sN F y)) {K:List Fr} {Q:Out->Env->aa->Prop} (h:ah VP 3 [0,21,22,23] ag [.ptr 0 0 0 0,.d (.slice l),.d (.int .i64 (l.length:Nat)),.d (.int .i64 (i+1:Nat))] (sN F y) K Q):ah VP 3 [0,21,22,23] ag [.ptr 0 0 0 0,.d (.slice l),.d (.int .i64 (l.length:Nat)),.d (.int .i64 i)] (sN F x) K Q:=by
 have hwi:=ac i (by omega)
 have ht:decide ((i:Int) < ((l.length:Nat):Int))=true:=decide_eq_true (by omega)
 have hE:=aE F.cs.length x.st hst f hf.1 (by have:=hf.2.1;omega) (by have:=hf.2.2;omega)
 have t0:(f.ev x.st != 0)=true:=by simpa using h0
 unfold ah
 (refine Z3r ?_;(repeat first | (refine fw (bR hE (aK rfl (by simp) (bM _)) rfl rfl (o0 ⟨rfl,rfl⟩)) ?_;refine Z3r ?_) | (refine oRX hr rfl rfl rfl rfl rfl rfl rfl rfl ?_;refine Z3r ?_)))
 rw [hwi]
 refine hdX rfl rfl rfl rfl ?_
 exact h
theorem tw (F:Fix) (hcs : ∀ c∈F.cs,c.Ok) (x:X) (hst:x.st.length=F.cs.length) (l:List D) (i:Nat) (hi:i < l.length) (hl:l.length < 1000) (y:X) (f:Fo) (a b:List D) (hf:cU F.cs.length f) (hg:l[i]?=some (cmD 3 0 0 f .z a b [] [])) (h0:f.ev x.st≠0) (hr:Ret VP (.fn 67) [.ptr 0 0 0 0,.d (.slice a)] (sN F x) (.d (.bool false)) (sN F y)) {K:List Fr} : ah VP 3 [0,21,22,23] ag [.ptr 0 0 0 0,.d (.slice l),.d (.int .i64 (l.length:Nat)),.d (.int .i64 i)] (sN F x) K (fun o e s=>fin f67.keep 3 f67.res o e s=some (.d (.bool false),(sN F y))):=by
 have hwi:=ac i (by omega)
 have ht:decide ((i:Int) < ((l.length:Nat):Int))=true:=decide_eq_true (by omega)
 have hE:=aE F.cs.length x.st hst f hf.1 (by have:=hf.2.1;omega) (by have:=hf.2.2;omega)
 have t0:(f.ev x.st != 0)=true:=by simpa using h0
 unfold ah
 (refine Z3r ?_;(repeat first | (refine fw (bR hE (aK rfl (by simp) (bM _)) rfl rfl (o0 ⟨rfl,rfl⟩)) ?_;refine Z3r ?_) | (refine oRX hr rfl rfl rfl rfl rfl rfl rfl rfl ?_;refine Z3r ?_)))
 exact kG (xs:=[.d (.bool false)]) rfl rfl rfl rfl
theorem wD (F:Fix) (hcs : ∀ c∈F.cs,c.Ok) (x:X) (hst:x.st.length=F.cs.length) (l:List D) (i:Nat) (hi:i < l.length) (hl:l.length < 1000) (y:X) (f:Fo) (a b:List D) (hf:cU F.cs.length f) (hg:l[i]?=some (cmD 3 0 0 f .z a b [] [])) (h0:f.ev x.st=0) (hr:Ret VP (.fn 67) [.ptr 0 0 0 0,.d (.slice b)] (sN F x) (.d (.bool true)) (sN F y)) {K:List Fr} {Q:Out->Env->aa->Prop} (h:ah VP 3 [0,21,22,23] ag [.ptr 0 0 0 0,.d (.slice l),.d (.int .i64 (l.length:Nat)),.d (.int .i64 (i+1:Nat))] (sN F y) K Q):ah VP 3 [0,21,22,23] ag [.ptr 0 0 0 0,.d (.slice l),.d (.int .i64 (l.length:Nat)),.d (.int .i64 i)] (sN F x) K Q:=by
 have hwi:=ac i (by omega)
 have ht:decide ((i:Int) < ((l.length:Nat):Int))=true:=decide_eq_true (by omega)
 have hE:=aE F.cs.length x.st hst f hf.1 (by have:=hf.2.1;omega) (by have:=hf.2.2;omega)
 have t0:(f.ev x.st != 0)=false:=by simpa using h0
 unfold ah
 (refine Z3r ?_;(repeat first | (refine fw (bR hE (aK rfl (by simp) (bM _)) rfl rfl (o0 ⟨rfl,rfl⟩)) ?_;refine Z3r ?_) | (refine oRX hr rfl rfl rfl rfl rfl rfl rfl rfl ?_;refine Z3r ?_)))
 rw [hwi]
 refine hdX rfl rfl rfl rfl ?_
 exact h
theorem tz (F:Fix) (hcs : ∀ c∈F.cs,c.Ok) (x:X) (hst:x.st.length=F.cs.length) (l:List D) (i:Nat) (hi:i < l.length) (hl:l.length < 1000) (y:X) (f:Fo) (a b:List D) (hf:cU F.cs.length f) (hg:l[i]?=some (cmD 3 0 0 f .z a b [] [])) (h0:f.ev x.st=0) (hr:Ret VP (.fn 67) [.ptr 0 0 0 0,.d (.slice b)] (sN F x) (.d (.bool false)) (sN F y)) {K:List Fr} : ah VP 3 [0,21,22,23] ag [.ptr 0 0 0 0,.d (.slice l),.d (.int .i64 (l.length:Nat)),.d (.int .i64 i)] (sN F x) K (fun o e s=>fin f67.keep 3 f67.res o e s=some (.d (.bool false),(sN F y))):=by
 have hwi:=ac i (by omega)
 have ht:decide ((i:Int) < ((l.length:Nat):Int))=true:=decide_eq_true (by omega)
 have hE:=aE F.cs.length x.st hst f hf.1 (by have:=hf.2.1;omega) (by have:=hf.2.2;omega)
 have t0:(f.ev x.st != 0)=false:=by simpa using h0
 unfold ah
 (refine Z3r ?_;(repeat first | (refine fw (bR hE (aK rfl (by simp) (bM _)) rfl rfl (o0 ⟨rfl,rfl⟩)) ?_;refine Z3r ?_) | (refine oRX hr rfl rfl rfl rfl rfl rfl rfl rfl ?_;refine Z3r ?_)))
 exact kG (xs:=[.d (.bool false)]) rfl rfl rfl rfl
theorem wE (F:Fix) (hcs : ∀ c∈F.cs,c.Ok) (x:X) (hst:x.st.length=F.cs.length) (l:List D) (i:Nat) (hi:i < l.length) (hl:l.length < 1000) (c1:Nat×Nat) (ch1:List (Nat×Nat)) (y:X) (f:Fo) (a b:List D) (hf:cU F.cs.length f) (hg:l[i]?=some (cmD 3 0 0 f .z a b [] [])) (h0:f.ev x.st≠0) (hr:Ret VP (.fn 67) [.ptr 0 0 0 0,.d (.slice a)] (sN F x) (.d (.bool true)) (sA F y c1 ch1)) {K:List Fr} {Q:Out->Env->aa->Prop} (h:ah VP 3 [0,21,22,23] ag [.ptr 0 0 0 0,.d (.slice l),.d (.int .i64 (l.length:Nat)),.d (.int .i64 (i+1:Nat))] (sA F y c1 ch1) K Q):ah VP 3 [0,21,22,23] ag [.ptr 0 0 0 0,.d (.slice l),.d (.int .i64 (l.length:Nat)),.d (.int .i64 i)] (sN F x) K Q:=by
 have hwi:=ac i (by omega)
 have ht:decide ((i:Int) < ((l.length:Nat):Int))=true:=decide_eq_true (by omega)
 have hE:=aE F.cs.length x.st hst f hf.1 (by have:=hf.2.1;omega) (by have:=hf.2.2;omega)
 have t0:(f.ev x.st != 0)=true:=by simpa using h0
 unfold ah
 (refine Z3r ?_;(repeat first | (refine fw (bR hE (aK rfl (by simp) (bM _)) rfl rfl (o0 ⟨rfl,rfl⟩)) ?_;refine Z3r ?_) | (refine oRX hr rfl rfl rfl rfl rfl rfl rfl rfl ?_;refine Z3r ?_)))
 rw [hwi]
 refine hdX rfl rfl rfl rfl ?_
 exact h
theorem tC (F:Fix) (hcs : ∀ c∈F.cs,c.Ok) (x:X) (hst:x.st.length=F.cs.length) (l:List D) (i:Nat) (hi:i < l.length) (hl:l.length < 1000) (c1:Nat×Nat) (ch1:List (Nat×Nat)) (y:X) (f:Fo) (a b:List D) (hf:cU F.cs.length f) (hg:l[i]?=some (cmD 3 0 0 f .z a b [] [])) (h0:f.ev x.st≠0) (hr:Ret VP (.fn 67) [.ptr 0 0 0 0,.d (.slice a)] (sN F x) (.d (.bool false)) (sA F y c1 ch1)) {K:List Fr} : ah VP 3 [0,21,22,23] ag [.ptr 0 0 0 0,.d (.slice l),.d (.int .i64 (l.length:Nat)),.d (.int .i64 i)] (sN F x) K (fun o e s=>fin f67.keep 3 f67.res o e s=some (.d (.bool false),(sA F y c1 ch1))):=by
 have hwi:=ac i (by omega)
 have ht:decide ((i:Int) < ((l.length:Nat):Int))=true:=decide_eq_true (by omega)
 have hE:=aE F.cs.length x.st hst f hf.1 (by have:=hf.2.1;omega) (by have:=hf.2.2;omega)
 have t0:(f.ev x.st != 0)=true:=by simpa using h0
 unfold ah
 (refine Z3r ?_;(repeat first | (refine fw (bR hE (aK rfl (by simp) (bM _)) rfl rfl (o0 ⟨rfl,rfl⟩)) ?_;refine Z3r ?_) | (refine oRX hr rfl rfl rfl rfl rfl rfl rfl rfl ?_;refine Z3r ?_)))
 exact kG (xs:=[.d (.bool false)]) rfl rfl rfl rfl
theorem wF (F:Fix) (hcs : ∀ c∈F.cs,c.Ok) (x:X) (hst:x.st.length=F.cs.length) (l:List D) (i:Nat) (hi:i < l.length) (hl:l.length < 1000) (c1:Nat×Nat) (ch1:List (Nat×Nat)) (y:X) (f:Fo) (a b:List D) (hf:cU F.cs.length f) (hg:l[i]?=some (cmD 3 0 0 f .z a b [] [])) (h0:f.ev x.st=0) (hr:Ret VP (.fn 67) [.ptr 0 0 0 0,.d (.slice b)] (sN F x) (.d (.bool true)) (sA F y c1 ch1)) {K:List Fr} {Q:Out->Env->aa->Prop} (h:ah VP 3 [0,21,22,23] ag [.ptr 0 0 0 0,.d (.slice l),.d (.int .i64 (l.length:Nat)),.d (.int .i64 (i+1:Nat))] (sA F y c1 ch1) K Q):ah VP 3 [0,21,22,23] ag [.ptr 0 0 0 0,.d (.slice l),.d (.int .i64 (l.length:Nat)),.d (.int .i64 i)] (sN F x) K Q:=by
 have hwi:=ac i (by omega)
 have ht:decide ((i:Int) < ((l.length:Nat):Int))=true:=decide_eq_true (by omega)
 have hE:=aE F.cs.length x.st hst f hf.1 (by have:=hf.2.1;omega) (by have:=hf.2.2;omega)
 have t0:(f.ev x.st != 0)=false:=by simpa using h0
 unfold ah
 (refine Z3r ?_;(repeat first | (refine fw (bR hE (aK rfl (by simp) (bM _)) rfl rfl (o0 ⟨rfl,rfl⟩)) ?_;refine Z3r ?_) | (refine oRX hr rfl rfl rfl rfl rfl rfl rfl rfl ?_;refine Z3r ?_)))
 rw [hwi]
 refine hdX rfl rfl rfl rfl ?_
 exact h
theorem tD (F:Fix) (hcs : ∀ c∈F.cs,c.Ok) (x:X) (hst:x.st.length=F.cs.length) (l:List D) (i:Nat) (hi:i < l.length) (hl:l.length < 1000) (c1:Nat×Nat) (ch1:List (Nat×Nat)) (y:X) (f:Fo) (a b:List D) (hf:cU F.cs.length f) (hg:l[i]?=some (cmD 3 0 0 f .z a b [] [])) (h0:f.ev x.st=0) (hr:Ret VP (.fn 67) [.ptr 0 0 0 0,.d (.slice b)] (sN F x) (.d (.bool false)) (sA F y c1 ch1)) {K:List Fr} : ah VP 3 [0,21,22,23] ag [.ptr 0 0 0 0,.d (.slice l),.d (.int .i64 (l.length:Nat)),.d (.int .i64 i)] (sN F x) K (fun o e s=>fin f67.keep 3 f67.res o e s=some (.d (.bool false),(sA F y c1 ch1))):=by
 have hwi:=ac i (by omega)
 have ht:decide ((i:Int) < ((l.length:Nat):Int))=true:=decide_eq_true (by omega)
 have hE:=aE F.cs.length x.st hst f hf.1 (by have:=hf.2.1;omega) (by have:=hf.2.2;omega)
 have t0:(f.ev x.st != 0)=false:=by simpa using h0
 unfold ah
 (refine Z3r ?_;(repeat first | (refine fw (bR hE (aK rfl (by simp) (bM _)) rfl rfl (o0 ⟨rfl,rfl⟩)) ?_;refine Z3r ?_) | (refine oRX hr rfl rfl rfl rfl rfl rfl rfl rfl ?_;refine Z3r ?_)))
 exact kG (xs:=[.d (.bool false)]) rfl rfl rfl rfl
end Go.Proofs.YtemffeblbmimfaaGreat
